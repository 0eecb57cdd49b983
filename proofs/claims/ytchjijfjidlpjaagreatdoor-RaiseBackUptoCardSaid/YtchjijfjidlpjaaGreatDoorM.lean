/- Raise: what each gate of the netlist is (plain). -/
import Derived.Test.YtchjijfjidlpjaaGreatDoorK
import Derived.Test.YtchjijfjidlpjaaGreatDoorJ
import Derived.Test.YtchjijfjidlpjaaGreatDoorF
import Derived.Test.YtchjijfjidlpjaaGreatDoorI
import Derived.Test.YtchjijfjidlpjaaGreatDoorAMd
import Derived.Test.YtchjijfjidlpjaaGreatDoorCards
import Derived.Test.YtchjijfjidlpjaaGreatDoorTie
import Derived.ProofKit
import Derived.Deep.DeepHandedRow
import Derived.LaidMore
import Derived.JoinedCond
import Derived.Test.YtchjijfjidlpjaaGreatDoorH
import Derived.Test.YtchjijfjidlpjaaGreatDoorG
set_option linter.unusedSimpArgs false
set_option linter.unusedVariables false
namespace Go.Proofs.YtchjijfjidlpjaaGreatDoor
open Go.AM Go.Proofs
inductive GD(N:List Bs)(V:List Nat)(first:Nat)(ands:List (Int×Int))(pos:Nat):Nat->Gt->Nat->Nat->Prop
 |const (t:Nat) (s:Bs) (b:Bool):GD N V first ands pos t (uj s (if b then 1 else 0)) (if b then 1 else 0) t
 |buf (t:Nat) (s:Bs) (k:Nat) (r:Bs) (a:Nat):k<pos->N[k]? =some r->V[k]? =some a->GD N V first ands pos t (eL s 2 [r]) a t
 |not (t:Nat) (s:Bs) (k:Nat) (r:Bs) (a:Nat):k<pos->N[k]? =some r->V[k]? =some a->GD N V first ands pos t (eL s 3 [r]) (a^^^1) t
 |and (t:Nat) (s:Bs) (k1 k2:Nat) (r1 r2:Bs) (p q:Nat):k1<pos->k2<pos->N[k1]? =some r1->N[k2]? =some r2->V[k1]? =some p->V[k2]? =some q->ands[t]? =some ((p:Int),(q:Int))->GD N V first ands pos t (eL s 4 [r1,r2]) (2*(first+t)) (t+1)
theorem agb(u:List Bs)(n:Nat):∀k:Nat,∃e,dI u (n+k)=dI u n++e:=by
 intro k
 induction k with
 |zero=>exact⟨[],by simp⟩
 |succ k ih=>
  obtain⟨e,he⟩:=ih;exact⟨e++[fI (u++dI u (n+k)) fh],by rw[<-lx,dI,he,cI]⟩
theorem QD{m:Md}{L:List (Nat×By)}{i:Nat}(hi:i<=L.length)(hd:(bV m L).Nodup)(E:List Bs)(F:List Nat){a:Nat}(ha:a∈bV m (L.take i)):
 ∃k,k<(m.an++m.ah).length+i/\(gh m L.length++E)[k]? =some (dt (cL m (L.take i)).bn a)/\(bV m L++F)[k]? =some a:=by
 obtain⟨k,hk,rfl⟩:=gC ha
 have hsp:bV m L=bV m (L.take i)++(L.drop i).map (·.1):=by rw[<-vF,mT]
 have pQ:(bV m (L.take i)).Nodup:=by
  rw[hsp,ly]at hd;exact hd.1
 have hlt:(L.take i).length=i:=by simp;omega
 have hkl:(bV m (L.take i)).length=(m.an++m.ah).length+i:=by simp only[bV,kj,bu,fC,pV,hlt]
 refine⟨k,by omega,?_,?_⟩
 ·rw[aiO pQ hk];obtain⟨e,he⟩:=agb (ji m) i (L.length-i);rw[show i+(L.length-i)=L.length by omega]at he
  have hn:gh m L.length=gh m (L.take i).length++e:=by rw[hlt,gh,he,gh,<-cI]
  have hk2:k<(gh m (L.take i).length).length:=by rw[<-nc];exact hk
  rw[hn,cI,cz hk2,aR hk2]
 ·rw[hsp,cI,cz hk,aR hk]
theorem agB{a:Nat}(h:a%2=1):a^^^1=a-1:=by rw[nb,if_neg (by omega)]
theorem aem{a:Nat}(h:a%2=1):(a-1)^^^1=a:=by rw[nb,if_pos (by omega)];omega
theorem QI{m:Md}{first:Nat}{ands:List (Int×Int)}{N:List Bs}{V:List Nat}{bn:List (Nat×Bs)}{pos:Nat}(s:Bs)(t:Nat){a:Nat}(h:a<2\/(a%2=1/\∃k,k<pos/\N[k]? =some (dt bn (a-1))/\V[k]? =some (a-1))):
 GD N V first ands pos t ((fA a).gate bn s) a t:=by
 unfold fA
 by_cases h2:a<2
 ·rw[if_pos h2];have:=GD.const (N:=N) (V:=V) (first:=first) (ands:=ands) (pos:=pos) t s (decide (a=1))
  have e:(if decide (a=1)=true then 1 else 0)=a:=by
   by_cases h1:a=1
   ·simp[h1]
   ·simp[h1];omega
  rw[e]at this;exact this
 ·rw[if_neg h2];obtain⟨h3,k,k1,k2,k3⟩:=h.resolve_left h2;have:=GD.not (first:=first) (ands:=ands) t s k _ _ k1 k2 k3;rw[aem h3]at this;simp only[By.gate,agB h3];exact this
def eW(n:Md):List (Bs×Int):=(n.aw.zip n.g.outs).filter fun p=>decide (dn n p.1<0)
theorem G_(d:Md)(m:List (Nat×Bs)):∀(l:List Bs)(r:List Int),ij d m l r=((l.zip r).filter fun p=>decide (dn d p.1<0)).map fun p=>mN m p.1 p.2.toNat
 |[],r=>by simp[ij]
 |s::l,[]=>by simp[ij]
 |s::l,a::r=>by
  rw[ij,xf,rD]
  by_cases h:dn d s<0
  ·simp[h,G_ d m l r]
  ·simp[h,G_ d m l r]
theorem ah6{n:Md}(ok:jU n)(hs:n.g.strict=true):∃L,Tr n n.g.first n.g.ands L n.g.ands.length/\(dy n).1=cL n L/\(∀a∈n.g.next,a.toNat∈bV n L)/\(dy n).2.map (·.name)=n.ah/\(dy n).2.map (·.init)=n.g.init/\(dy n).2.map (·.next)=n.g.next.map (fun a=>dt (cL n L).bn a.toNat)/\∀e∈L,qF e=false->(∃p∈n.g.ands,e.1=p.1.toNat\/e.1=p.2.toNat)\/∃a∈n.g.next,e.1=a.toNat:=by
 have hf:=ok.first
 obtain⟨o,_,_⟩:=qe hs;obtain⟨L1,t1,e1,s1⟩:=aef hf o.ands n.g.ands.length 0 (by omega) [] .nil
 have hA:oH n=cL n L1:=by
  rw[fg,j3]at e1;exact e1
 rw[j3]at t1
 obtain⟨L2,t2,e2,k2,e3,e4,e5,s2⟩:=PF hf n.ah n.g.next n.g.init ok.lL o.same (fun a ha=>by
  have:=o.next a ha;have e:n.g.lits=2*(n.g.first+n.g.ands.length):=rfl
  omega) L1 t1
 refine⟨L1++L2,t2,?_,k2,?_,?_,?_,fun x hx hb=>?_⟩
 ·unfold dy;rw[hA];exact e2
 ·unfold dy;rw[hA];exact e3
 ·unfold dy;rw[hA];exact e4
 ·unfold dy;rw[hA];exact e5
 ·rcases aT.1 hx with hx|hx
  ·exact .inl (s1 x hx hb)
  ·exact .inr (s2 x hx).2
structure iy(n:Md)(V:List Nat)(ts:Nat->Nat):Prop where
 len:V.length=(aD (aJ n)).length
 nd:(aD (aJ n)).Nodup
 low:∀k,k<(n.an++n.ah).length->V[k]? =some (2*(k+1))
 t0:ts 0=0
 tN:ts (aJ n).af.length=n.g.ands.length
 gd:∀i(h:i<(aJ n).af.length),∃d,V[(n.an++n.ah).length+i]? =some d/\GD (aD (aJ n)) V n.g.first n.g.ands ((n.an++n.ah).length+i) (ts i) (aJ n).af[i] d (ts (i+1))
 next:∀i(h:i<n.g.next.length),∃q,(aJ n).ah[i]? =some q/\∃k:Nat,(aD (aJ n))[k]? =some q.next/\V[k]? =some (n.g.next[i]).toNat
 outs:∀i(h:i<n.g.outs.length)(h2:i<n.aw.length),∃k:Nat,(aD (aJ n))[k]? =some n.aw[i]/\V[k]? =some (n.g.outs[i]).toNat
 RY:(aJ n).ah.map (·.name)=n.ah
 RZ:(aJ n).ah.map (·.init)=n.g.init
 names:∀s∈aD (aJ n),s∈n.an++n.ah++n.aw\/∃j,j<10^7/\s=fh++Lib.decDigits j
 Sv:(aJ n).af.length<=2^15
theorem Zt(L:List (Nat×By)){i:Nat}(hi:i<L.length):q_ (L.take (i+1))=q_ (L.take i)+if qF L[i]=true then 1 else 0:=by
 rw[kK hi,Hv]
theorem Lc{n:Md}(ok:jU n)(hs:n.g.strict=true):∃V ts,iy n V ts:=by
 obtain⟨L,tr,hL,hk,l1,l2,l3,_⟩:=ah6 ok hs;obtain⟨o,so,_⟩:=qe hs
 have hf:=ok.first
 have F:=tr.facts hf
 obtain⟨hcnt,hat⟩:=tr.at
 have hgl:=Na n L
 have hG:(aJ n).af=(cL n L).af++(eW n).map fun p=>mN (cL n L).bn p.1 p.2.toNat:=by
  show(dy n).1.af++ij n (dy n).1.bn n.aw n.g.outs=_
  rw[hL,G_];rfl
 have hlat:(aJ n).ah=(dy n).2:=rfl
 have hoN:∀p:Bs×Int,(mN (cL n L).bn p.1 p.2.toNat).name=p.1:=by
  intro p;unfold mN
  split
  ·rfl
  ·simp
 have hN:aD (aJ n)=gh n L.length++(eW n).map (·.1):=by
  unfold aD;rw[hG,hlat,l1,j5,abq,iB]
  have:((eW n).map ((fun g:Gt=>g.name)∘fun p=>mN (cL n L).bn p.1 p.2.toNat))=(eW n).map (·.1):=mb fun p _=>hoN p
  rw[this];simp[gh,aJ,cI]
 have hgN:(aJ n).af.length=L.length+(eW n).length:=by rw[hG];simp[hgl]
 have hkl:(bV n L).length=(n.an++n.ah).length+L.length:=by simp[bV,kj]
 obtain⟨f1,f2⟩:=Qa (ji n) L.length
 have hout:∀p∈eW n,p.1∈n.aw/\p.1∉n.an++n.ah/\p.2∈n.g.outs:=by
  intro p hp;simp only[eW,dN,aZ]at hp;obtain⟨h1,h2⟩:=List.of_mem_zip (a:=p.1) (b:=p.2) hp.1;exact⟨h1,abm.1 hp.2,h2⟩
 have hlits:n.g.lits=2*(n.g.first+n.g.ands.length):=rfl
 have hnet:∀a∈bV n L,∃k,k<(n.an++n.ah).length+L.length/\(aD (aJ n))[k]? =some (dt (cL n L).bn a)/\(bV n L++(eW n).map (·.2.toNat))[k]? =some a:=by
  intro a ha;have:=QD (m:=n) (L:=L) (i:=L.length) (aQ _) F.nodup ((eW n).map (·.1)) ((eW n).map (·.2.toNat)) (a:=a) (by rw[w7];exact ha);rw[w7,<-hN]at this;exact this
 refine⟨bV n L++(eW n).map (·.2.toNat),fun i=>q_ (L.take i),?_⟩
 have hLl:L.length<=2^14:=by
  have h1:=G5 (bV n L) (List.range n.g.lits) F.nodup (fun x hx=>dJ.2 (by have:=F.lt x hx;omega));rw[pV,hkl]at h1;have h2:=kQ o;omega
 have hol:(eW n).length<=4000:=by
  have h1:(eW n).length<=(n.aw.zip n.g.outs).length:=E9 _ _;have h2:=o.ju;simp only[List.length_zip]at h1;omega
 have hul:(ji n).length<=12000:=by
  have h1:=ok.lI;have h2:=ok.lL;have h3:=ok.lO;have h4:=o.sum;have h5:=o.ju;simp only[ji,bu];omega
 refine⟨?_,?_,fun k hk=>?_,rfl,?_,fun i hi=>?_,fun i hi=>?_,fun i h1 h2=>?_,l1,l2,fun s hs=>?_,by omega⟩
 ·rw[hN,bu,bu,nc];simp
 ·rw[hN,gh,ly];refine⟨?_,?_,fun a ha b hb=>?_⟩
  ·rw[ly];refine⟨ok.nd,f1,fun a ha b hb=>?_⟩
   rintro rfl
   exact f2 a hb (mW _ ha)
  ·refine ok.JS.sublist ?_;refine List.Sublist.trans (List.Sublist.map _ List.filter_sublist) ?_;rw[List.map_fst_zip (by rw[ok.lO];exact aQ _)];exact List.Sublist.refl _
  ·obtain⟨p,hp,rfl⟩:=cd.1 hb;obtain⟨q1,q2,_⟩:=hout p hp
   rintro rfl
   rcases aT.1 ha with ha|ha
   ·exact q2 ha
   ·exact f2 _ ha (xo _ q1)
 ·rw[cz (by rw[hkl];omega),bV,cz (by simpa[kj]using hk)];simp only[kj,jn,Lw hk,dm]
 ·rw[hgN,cR (by omega),<-hcnt]
 ·by_cases hiL:i<L.length
  ·have hst:=hat i hiL
   have hsplit:L=L.take i++L[i]::L.drop (i+1):=by rw[<-bJ hiL,mT]
   have hlt:(L.take i).length=i:=by simp;omega
   have hg:(aJ n).af[i]=(L[i]).2.gate (cL n (L.take i)).bn (fI (ji n++dI (ji n) i) fh):=by
    have h1:=afx n (L.take i) L[i] (L.drop (i+1));rw[<-hsplit,hlt]at h1
    have h2:(aJ n).af[i]? =some ((L[i]).2.gate (cL n (L.take i)).bn (fI (ji n++dI (ji n) i) fh)):=by
     rw[hG,cz (by omega)];exact h1
    exact(db.1 h2).2
   have hV:(bV n L++(eW n).map (·.2.toNat))[(n.an++n.ah).length+i]? =some (L[i]).1:=by
    rw[cz (by rw[hkl];omega),bV,dk (by simp[kj])];simp[kj,jn,aR hiL]
   refine⟨(L[i]).1,hV,?_⟩;rw[hg,hN];rw[Zt L hiL]
   have hpre:=fun a=>QD (m:=n) (L:=L) (i:=i) (by omega) F.nodup ((eW n).map (·.1)) ((eW n).map (·.2.toNat)) (a:=a)
   rcases hst with⟨a,he,ha⟩|⟨p,q,he,hp,h1,h2⟩
   ·rw[he,HB];refine QI (m:=n) _ _ ?_
    rcases ha with ha|⟨ha,hb⟩
    ·exact .inl ha
    ·exact .inr ⟨ha,hpre _ hb⟩
   ·obtain⟨k1,a1,a2,a3⟩:=hpre p h1;obtain⟨k2,b1,b2,b3⟩:=hpre q h2;rw[he];exact .and _ _ k1 k2 _ _ p q a1 b1 a2 b2 a3 b3 hp
  ·obtain⟨r,rfl⟩:∃r,i=L.length+r:=⟨i-L.length,by omega⟩
   have hr:r<(eW n).length:=by omega
   have hg:(aJ n).af[L.length+r]=mN (cL n L).bn (eW n)[r].1 (eW n)[r].2.toNat:=by
    have h2:(aJ n).af[L.length+r]? =some (mN (cL n L).bn (eW n)[r].1 (eW n)[r].2.toNat):=by
     rw[hG,dk (by omega),hgl,rB,jn,aR hr];rfl
    exact(db.1 h2).2
   have hV:(bV n L++(eW n).map (·.2.toNat))[(n.an++n.ah).length+(L.length+r)]? =some (eW n)[r].2.toNat:=by
    rw[dk (by rw[hkl];omega),hkl,show(n.an++n.ah).length+(L.length+r)-((n.an++n.ah).length+L.length)=r by omega,jn,aR hr];rfl
   refine⟨_,hV,?_⟩;rw[hg,cR (by omega),cR (by omega)];obtain⟨_,_,h3⟩:=hout _ (bw hr);have hb:=o.outs _ h3;generalize(eW n)[r]=p at*;obtain⟨s,a⟩:=p;obtain⟨a,rfl⟩:=gB hb.1;simp only[dX]at*
   have hlt:a<2*(n.g.first+n.g.ands.length):=by omega
   unfold mN
   by_cases he:2<=a/\a%2=0
   ·rw[if_pos he]
    obtain⟨k,k1,k2,k3⟩:=hnet a (by
     have:=F.even (a/2) (by omega) (by omega)
     rwa[show 2*(a/2)=a by omega]at this)
    exact .buf _ _ k _ _ (by omega) k2 k3
   ·rw[if_neg he];refine QI (m:=n) _ _ ?_
    by_cases h2:a<2
    ·exact .inl h2
    ·have ho:a%2=1:=by omega
     obtain⟨k,k1,k2,k3⟩:=hnet (a-1) (by
      have:=F.even (a/2) (by omega) (by omega)
      rwa[show 2*(a/2)=a-1 by omega]at this)
     exact .inr ⟨ho,k,by omega,k2,k3⟩
 ·have h1:i<(aJ n).ah.length:=by
   have:=congrArg List.length l1;rw[fC]at this
   rw[hlat,this,ok.lL];exact hi
  refine⟨_,aR h1,?_⟩
  have e:(aJ n).ah[i].next=dt (cL n L).bn (n.g.next[i]).toNat:=by
   have h2:((dy n).2.map (·.next))[i]? =some (dt (cL n L).bn (n.g.next[i]).toNat):=by rw[l3,jn,aR hi];rfl
   rw[jn,<-hlat,aR h1]at h2;simpa using h2
  rw[e];obtain⟨k,_,k2,k3⟩:=hnet _ (hk _ (bw hi));exact⟨k,k2,k3⟩
 ·by_cases hp:dn n n.aw[i]<0
  ·have hz:i<(n.aw.zip n.g.outs).length:=by simp;omega
   have hm:(n.aw[i],n.g.outs[i])∈eW n:=by
    simp only[eW,dN,aZ];refine⟨?_,hp⟩;have:=bw hz;rwa[List.getElem_zip]at this
   obtain⟨r,hr,he⟩:=gC hm;refine⟨(n.an++n.ah).length+L.length+r,?_,?_⟩
   ·rw[hN,dk (by rw[<-nc,hkl];omega),<-nc,hkl,rB,jn,aR hr,he];rfl
   ·rw[dk (by rw[hkl];omega),hkl,rB,jn,aR hr,he];rfl
  ·have h3:=ok.out i h2 h1 (by omega);obtain⟨k,k1,k2,k3⟩:=abp (m:=n) (s:=n.aw[i]) (by omega);refine⟨k,?_,?_⟩
   ·rw[hN,gh,cI,cz k1,aR k1,k2]
   ·rw[cz (by rw[hkl];omega),bV,cz (by simpa[kj]using k1)];simp only[kj,jn,Lw k1,dm];congr 1;omega
 ·rw[hN,gh]at hs
  rcases aT.1 hs with hs|hs
  ·rcases aT.1 hs with hs|hs
   ·exact .inl (mW _ hs)
   ·obtain⟨j,j1,j2⟩:=PI (ji n) L.length s hs;exact .inr ⟨j,by omega,j2⟩
  ·obtain⟨p,hp,rfl⟩:=cd.1 hs;exact .inl (xo _ (hout p hp).1)
def jV(l:List Nat)(a:Nat):List Nat:=if a%2=1/\a∉l then l++[a]else l
def I1(p:Int×Int):List Nat:=[p.1.toNat,p.2.toNat]
def asked(g:Gr):List Nat:=g.ands.flatMap I1++g.next.map (·.toNat)
def R1(g:Gr):List Nat:=(asked g).foldl jV []
def Is(g:Gr):Nat:=if g.check=0 then g.normal.ands.length+(R1 g.normal).length else 0
end Go.Proofs.YtchjijfjidlpjaaGreatDoor
namespace Go.Proofs.YtchjijfjidlpjaaGreatDoor
open Go.AM Go.Proofs
variable{Γ:Nat->Option AV}
theorem G4(m:Md)(hb:rj m):aS Tryz.prog Γ uY [eb m] (.aH [eb (lR m).1,.int .i64 (lR m).2]):=by
 have hC:=aeK (Γ:=Γ) m hb;have hN:=FF (Γ:=Γ) m.g hb.1;unfold lR;refine .run 60 Yx (by simp) ?_;simp;refine .call 60 (by simp) hC ?_
 by_cases h:jc m=0
 ·simp[h];refine .call 60 (by simp) hN ?_;simp;exact .back (by simp[bI])
 ·simp[h];exact .back (by simp[kC,fQ])
abbrev EH(a:Nat):AV×AV:=(iN a,.bool true)
theorem Qb(a:Nat):∀s:List Nat,gb (.sc .int) (iN a) (.bool true) (s.map EH)=some ((if a∈s then s else s++[a]).map EH)
 |[]=>by simp[gb]
 |b::s=>by
  have ih:=Qb a s;rw[bU,gb,ud]
  by_cases h:a=b
  ·subst h;simp
  ·simp only[h,nV,ih]
   by_cases h2:a∈s<;>simp[h2,h]
abbrev Eh(g:Gr)(s:List Nat)(tl:List Ob):List Ob:=.cells (AV.cells (eQ g))::.cells (AV.cells (eQ g.normal))::.row 1 aq [] none true false::.row 1 aq [] none true false::.row 2 cT [] none true false::.row 1 aq [] none true false::.map (s.map EH) true::.cells [.mp 6]::tl
theorem and_1{a:Nat}(ha:(a:Int)<2^60):gS .and .i64 (a:Int) 1=some ((a%2:Nat):Int):=by
 have h1:(BitVec.ofInt 64 (a:Int)&&&BitVec.ofInt 64 1).toNat=a%2:=by
  have e1:(BitVec.ofInt 64 1).toNat=1:=by decide
  rw[BitVec.toNat_and,e1,Nat.and_one_is_mod,Lz];omega
 show some (IntKind.i64.wrap ((BitVec.ofInt 64 (a:Int)&&&BitVec.ofInt 64 1).toNat:Int))=_
 rw[h1,z7 (by omega)]
theorem aeT(n:Nat)(s:List Nat):fa n (s.map EH)=true:=by
 induction s with
 |nil=>rfl
 |cons a s ih=>simpa[fa]using ih
theorem afJ(s:List Nat)(a:Nat):jV s a=if a%2=1 then(if a∈s then s else s++[a])else s:=by
 unfold jV
 by_cases h:a%2=1<;>by_cases h2:a∈s<;>simp[h,h2]
theorem IK(g:Gr)(s:List Nat)(tl:List Ob)(a:Nat)(ha:(a:Int)<2^60):∀up,AM.Reach Tryz.prog Γ (.cl uW [iN a,.ptr 7 0] up (Eh g s tl)) (.back up (.aH []) (Eh g (jV s a) tl)):=by
 intro up;have hp:=Qb a s;have hbit:=and_1 ha;have q:((a:Int)%2=1)=(a%2=1):=propext (by omega);rw[afJ];refine .bt 60 X4 ?_
 by_cases h:a%2=1
 ·simp[hbit,q,h,hp,isKey,bN,b9]
  try exact .refl _
 ·simp[hbit,q,h]
  try exact .refl _
set_option maxRecDepth 8000 in
theorem ah8(g:Gr)(x:Gr)(hx:x=g.normal)(ox:x.Ok):∀k i:Nat,i+k=x.next.length->∀s:List Nat,s.length<2^30+i->
 aA Tryz.prog Γ (yct (.ptr 1 0) (.ptr 7 0) (.fn (.func uW) [] [.ptr 7 0]) (.list false x.kn (x.next.map i64)) (.int .i64 x.next.length) (.int .i64 i) (Eh g s [])) (.ret (.int .i64 ((x.ands.length+(((x.next.drop i).map (·.toNat)).foldl jV s).length:Nat):Int))):=by
 have hlt:=kQ ox;have o3:=ox.sum;have o1:=ox.ins;intro k
 induction k with
 |zero=>
  intro i hi s hs
  have q1:¬i<x.next.length:=by omega
  rw[bA (by omega)];subst hx;refine .go 60 ?_;simp(disch:=omega) [q1];exact .back (by simp)
 |succ k ih=>
  intro i hi s hs
  have q1:i<x.next.length:=by omega
  have q2:=bR (x.hn.of q1);obtain⟨b1,b2⟩:=ox.next _ (bw q1);obtain⟨a,ha⟩:=gB b1;have hR:=IK (Γ:=Γ) g s [] a (by omega)
  have h2:(jV s a).length<=s.length+1:=by
   unfold jV
   split<;>simp
  have hh:=ih (i+1) (by omega) (jV s a) (by omega);rw[bJ q1,bU,sM,ha];simp only[dX];refine .go 60 ?_;simp[q1,q2,ha];refine .aW 60 hR ?_;simp;refine .aO ?_;simp(disch:=omega);simp at hh⊢;exact hh
set_option maxRecDepth 8000 in
theorem ait(g:Gr)(x:Gr)(hx:x=g.normal)(ox:x.Ok):∀k i:Nat,i+k=x.ands.length->∀s:List Nat,s.length<2^29+2*i->
 aA Tryz.prog Γ (ycv (.ptr 1 0) (.ptr 7 0) (.fn (.func uW) [] [.ptr 7 0]) (.list false x.ka (x.ands.map c8)) (.int .i64 x.ands.length) (.int .i64 i) (Eh g s [])) (.ret (.int .i64 ((x.ands.length+(((x.ands.drop i).flatMap I1++x.next.map (·.toNat)).foldl jV s).length:Nat):Int))):=by
 have hlt:=kQ ox;have o3:=ox.sum;have o1:=ox.ins;intro k
 induction k with
 |zero=>
  intro i hi s hs
  have q1:¬i<x.ands.length:=by omega
  have hh:=ah8 (Γ:=Γ) g x hx ox x.next.length 0 (by omega) s (by omega);rw[bA (by omega)];subst hx;refine .go 60 ?_;simp[q1];refine .inLoop ?_;simp at hh⊢;exact hh
 |succ k ih=>
  intro i hi s hs
  have q1:i<x.ands.length:=by omega
  have q2:=bR (x.ha.of q1);obtain⟨⟨b1,b2⟩,b3,b4⟩:=ox.ands i q1;obtain⟨a,ha⟩:=gB b1;obtain⟨b,hb⟩:=gB b3
  have hfb:x.first<=8001:=by have:=ox.ins;unfold Gr.first;omega
  have hR:=IK (Γ:=Γ) g s [.cells [iN a,iN b]] a (by omega);have hR2:=IK (Γ:=Γ) g (jV s a) [.cells [iN a,iN b]] b (by omega)
  have h2:∀(s:List Nat)(a:Nat),(jV s a).length<=s.length+1:=by
   intro s a;unfold jV
   split<;>simp
  have h3:=h2 s a;have h4:=h2 (jV s a) b;have hh:=ih (i+1) (by omega) (jV (jV s a) b) (by omega);have hbs:=aeT 8 (jV (jV s a) b);rw[bJ q1,nW,I1,ha,hb,cI];simp only[dX,eo,j3,sM];refine .go 60 ?_;simp[q1,q2,ha,hb];refine .aW 60 hR ?_;simp;refine .aW 60 hR2 ?_;simp;refine .aO ?_;simp(disch:=omega);refine .drop 8 rfl (by simp) (by simp) (by simp[hbs]) ?_;simp at hh⊢;exact hh
theorem aeS(g:Gr)(hf:g.iA):aS Tryz.prog Γ u9 [eQ g] (.int .i64 (Is g)):=by
 have hN:=FF (Γ:=Γ) g hf;unfold Is;refine .run 60 YA (by simp) ?_;simp;refine .call 60 (by simp) hN ?_
 by_cases h:g.check=0
 ·have ox:g.normal.Ok:=Gr.qP (Bq h).2.1;have hh:=ait (Γ:=Γ) g g.normal rfl ox g.normal.ands.length 0 (by omega) [] (by simp);unfold R1 asked;simp[h];refine .inLoop ?_;simp at hh⊢;exact hh
 ·simp[h];exact .back (by simp)
theorem OA{a b:Nat}{m:List (Nat×Bs)}{s:Bs}(h:getM b m=none)(hne:¬b=a):getM b (m++[(a,s)])=none:=by
 rw[getM_none]at h⊢;intro x hx
 rcases aT.1 hx with hx|hx
 ·exact h x hx
 ·simp only[cE]at hx;subst hx
  exact fun e=>hne e.symm
structure oz(x:Ra)(B K:Nat):Prop where
 g:x.af.length<=K
 u:x.used.length<=20000+K
 k:∀b,B<=b->getM b x.bn=none
theorem oz.make{x:Ra}{B K a:Nat}(h:oz x B K)(b:By){B':Nat}(hB:B<=B')(ha:a<B'):oz (x.make a b) B' (K+1):=
 ⟨by have:=h.g;simp[Ra.make];omega,by have:=h.u;simp[Ra.make];omega,fun c hc=>OA (h.k c (by omega)) (by omega)⟩
theorem oz.df{x:Ra}{B K a:Nat}(h:oz x B K)(ha:a<B):oz (x.df a) B (K+1):=by
 unfold Ra.df
 split
 ·exact⟨by have:=h.g;omega,by have:=h.u;omega,h.k⟩
 ·exact h.make _ (aQ _) ha
theorem wc(x:Ra)(a:Nat){g:Option Nat}(h:g=none\/g=some 0):wH x a g=none\/wH x a g=some 0:=by
 unfold wH
 split
 ·exact h
 ·exact .inr rfl
section
variable{a1 a2 a3 a4 a5 rL:Ob}{I O:AV}
set_option maxRecDepth 8000 in
theorem ajo(hP:oE Γ)(n:Md)(og:n.g.Ok)(H:iQ (.cells (AV.cells (eb n))) a1 a2 a3 a4 a5 I O rL [])(nl:Nat)(X:Ra){o:Out}
 (hc:∀gu gg,gu=none\/gu=some 0->gg=none\/gg=some 0->aA Tryz.prog Γ (ybJ (.ptr 0 0) (.ptr 1 0) (.ptr 6 0) (dV (.cells (AV.cells (eb n))) a1 a2 a3 a4 a5 I O nl X gu gg rL [])) o):
 ∀k i:Nat,i+k=n.g.ands.length->∀(x:Ra)(gu gg:Option Nat),gu=none\/gu=some 0->gg=none\/gg=some 0->oz x (2*(n.g.first+i)) (3*i)->ny n.g.first (n.g.ands.drop i) i x=X->
 aA Tryz.prog Γ (UJ (.ptr 0 0) (.ptr 1 0) (.ptr 6 0) (iN n.g.first) (.list false n.g.ka (n.g.ands.map c8)) (.int .i64 n.g.ands.length) (.int .i64 i) (dV (.cells (AV.cells (eb n))) a1 a2 a3 a4 a5 I O nl x gu gg rL [])) o:=by
 have o1:=og.ins;have o3:=og.sum
 have hfb:n.g.first<=8001:=by unfold Gr.first;omega
 intro k
 induction k with
 |zero=>
  intro i hi x gu gg hu hg hF hX
  have q1:¬i<n.g.ands.length:=by omega
  rw[bA (by omega),ny]at hX;subst hX;refine .dW 60 ?_;simp[q1];exact .reach (.exit rfl rfl) (hc gu gg hu hg)
 |succ k ih=>
  intro i hi x gu gg hu hg hF hX
  have q1:i<n.g.ands.length:=by omega
  have q2:=bR (n.g.ha.of q1);obtain⟨⟨b1,b2⟩,b3,b4⟩:=og.ands i q1;obtain⟨p,hp⟩:=gB b1;obtain⟨q,hq⟩:=gB b3;rw[bJ q1,ny,hp,hq]at hX;simp only[dX]at hX;have f1:=hF.df (a:=p) (by omega);have f2:=f1.df (a:=q) (by omega);have f3:=f2.make (a:=2*(n.g.first+i)) (.both p q) (B':=2*(n.g.first+(i+1))) (by omega) (by omega)
  have hJ:∀m,12<=m->cr m [Ob.cells [iN p,iN q]]=true:=fun m hm=>by simp
  have H1:=H.more hJ;have N1:=IL hP H1 nl x gu gg hu hg (by have:=hF.g;omega) (by have:=hF.u;omega) p (by omega);have m1:=wc x p hu;have m2:=wc x p hg;have N2:=IL hP H1 nl (x.df p) _ _ m1 m2 (by have:=f1.g;omega) (by have:=f1.u;omega) q (by omega);have m3:=wc (x.df p) q m1;have m4:=wc (x.df p) q m2;have N3:=Rf hP H1 nl ((x.df p).df q) _ _ m3 m4 (by have:=f2.g;omega) (by have:=f2.u;omega) (2*(n.g.first+i)) (f2.k _ (by omega)) (.both p q) trivial;have hh:=ih (i+1) (by omega) _ (some 0) (some 0) (.inr rfl) (.inr rfl) (by have:=f3;rw[show 3*(i+1)=3*i+1+1+1 by omega];exact this) hX;refine .go 60 ?_;simp[q1,q2,hp,hq];refine .aW 60 N1 ?_;simp;refine .aW 60 N2 ?_;simp(disch:=omega);refine .aW 60 N3 ?_;simp(disch:=omega);refine .aO ?_;simp;refine .drop 12 rfl (by simp) (by simp) (H.wf nl _ _ _ 12 (by simp)) ?_;simp at hh⊢;exact hh
abbrev wF(ls:List Lt)(gl:Option Nat):Ob:=.row 3 mX (ls.map lj) gl true false
theorem aea(n:Nat)(l:List Lt):aK n (l.map lj)=true:=by
 induction l with
 |nil=>rfl
 |cons x m ih=>simp[ih]
theorem iQ.AB{a0:Ob}{tl:List Ob}(H:iQ a0 a1 a2 a3 a4 a5 I O rL tl)(ls:List Lt)(gl:Option Nat):iQ a0 a1 a2 a3 a4 a5 I O (wF ls gl) tl:=
 ⟨fun n hn=>by
  have:=H.a n hn;have b:=aea n ls;simp at this⊢
  simp[this,b],H.i,H.t⟩
set_option maxRecDepth 8000 in
theorem ajn(hP:oE Γ)(n:Md)(og:n.g.Ok)(hl:n.ah.length=n.g.next.length)(H:iQ (.cells (AV.cells (eb n))) a1 a2 a3 a4 a5 I O rL [])(X:Ra)(XL:List Lt){o:Out}
 (hc:∀gu gg gl,gu=none\/gu=some 0->gg=none\/gg=some 0->gl=none\/gl=some 0->aA Tryz.prog Γ (ybG (.ptr 0 0) (.ptr 1 0) (.ptr 6 0) (dV (.cells (AV.cells (eb n))) a1 a2 a3 a4 a5 I O XL.length X gu gg (wF XL gl) [])) o):
 ∀k i:Nat,i+k=n.ah.length->∀(x:Ra)(ls:List Lt)(gu gg gl:Option Nat),gu=none\/gu=some 0->gg=none\/gg=some 0->gl=none\/gl=some 0->oz x (2*(n.g.first+n.g.ands.length)) (3*n.g.ands.length+i)->ls.length=i->(iI (n.ah.drop i) (n.g.next.drop i) (n.g.init.drop i) x).1=X->ls++(iI (n.ah.drop i) (n.g.next.drop i) (n.g.init.drop i) x).2=XL->
 aA Tryz.prog Γ (ybF (.ptr 0 0) (.ptr 1 0) (.ptr 6 0) (.list false n.kL (n.ah.map .str)) (.int .i64 n.ah.length) (.int .i64 i) (dV (.cells (AV.cells (eb n))) a1 a2 a3 a4 a5 I O ls.length x gu gg (wF ls gl) [])) o:=by
 have o1:=og.ins;have o3:=og.sum
 have hfb:n.g.first<=8001:=by unfold Gr.first;omega
 have hs:=og.same;intro k
 induction k with
 |zero=>
  intro i hi x ls gu gg gl hu hg hl hF hls hX hXL
  have q1:¬i<n.ah.length:=by omega
  rw[bA (by omega),iI]at hX hXL
  ·subst hX;rw[ee]at hXL;subst hXL;refine .dW 60 ?_;simp[q1];exact .reach (.exit rfl rfl) (hc gu gg gl hu hg hl)
  all_goals (intro s l a n v i h;cases h)
 |succ k ih=>
  intro i hi x ls gu gg gl hu hg hgl hF hls hX hXL
  have q1:i<n.ah.length:=by omega
  have q2:=bR (n.hL.of q1)
  have q3:i<n.g.next.length:=by omega
  have q4:=bR (n.g.hn.of q3)
  have q5:i<n.g.init.length:=by omega
  have q6:=bR (n.g.hi.of q5);obtain⟨b1,b2⟩:=og.next _ (bw q3);have hlits:n.g.lits=2*(n.g.first+n.g.ands.length):=rfl;obtain⟨p,hp⟩:=gB b1;rw[bJ q1,bJ q3,bJ q5,iI,hp]at hX hXL;simp only[dX]at hX hXL;have f1:=hF.df (a:=p) (by omega);have N1:=IL hP (H.AB ls gl) ls.length x gu gg hu hg (by have:=hF.g;omega) (by have:=hF.u;omega) p (by omega);have m1:=wc x p hu;have m2:=wc x p hg;have hh:=ih (i+1) (by omega) (x.df p) (ls++[⟨n.ah[i],dt (x.df p).bn p,n.g.init[i]⟩]) _ _ (some 0) m1 m2 (.inr rfl) f1 (by simp[hls]) hX (by rw[<-hXL];simp)
  have hle:(ls.length+1)*40<=140737488355328:=by omega
  subst hls
  rcases hgl with rfl|rfl
  all_goals
   refine .go 60 ?_;simp[q1,q2];refine .dr 60 ?_;simp[q3,q4,hp];refine .reach (by simp) N1 ?_;simp(disch:=omega) [q5,q6,hle];refine .aO ?_;simp[wF]at hh⊢;exact hh
end
def mz(m:List (Nat×Bs))(s:Bs)(a:Nat):AV:=if 2<=a/\a%2=0 then nD s 2 (.list true 1 [.str (dt m a)])else(fA a).raw m s
section
variable{a0 a1 a2 a3 a4 a5 rL:Ob}{I O:AV}{tl:List Ob}
set_option maxRecDepth 8000 in
theorem adB(H:iQ a0 a1 a2 a3 a4 a5 I O rL tl)(nl:Nat)(x:Ra)(gu gg:Option Nat)(s:Bs)(a:Nat)(ha:(a:Int)<2^60):
 ∀up,AM.Reach Tryz.prog Γ (.cl A' [.ptr 6 0,.str s,iN a] up (dV a0 a1 a2 a3 a4 a5 I O nl x gu gg rL tl)) (.back up (mz x.bn s a) (dV a0 a1 a2 a3 a4 a5 I O nl x gu gg rL tl)):=by
 intro up;have hw:=H.wf nl x gu gg;have hB:=Sn (Γ:=Γ) a;have hbit:=and_1 ha;have hlk:=v7 a x.bn
 have hbr:∀n,aG n (mz x.bn s a)=true:=by
  intro n;unfold mz fA
  split
  ·simp
  ·split<;>simp[By.raw]
 refine .zH [.cells (AV.cells (mz x.bn s a)),.row 1 au [] none true false,.row 1 au [] none true false,.cells (AV.cells (mz x.bn s a)),.row 1 au [] none true false,.row 1 au [] none true false] hw (hbr _) ?_;refine .bt 60 W5 ?_
 by_cases h2:a<2
 ·have hby:fA a=.one (decide (a=1)):=by unfold fA;rw[if_pos h2]
  have hout:mz x.bn s a=nD s (if a=1 then 1 else 0) (.list true 0 []):=by
   unfold mz;rw[if_neg (by omega),hby];simp[By.raw]
  have hG:=fun g hg=>Ro (Γ:=Γ) (decide (a=1)) (.mp 8) (h:=g) hg
  have q1:¬(1:Int)<a:=by omega
  rw[hby]at hB;rw[hout];simp;refine .ea 60 ?_;simp;refine .quiet hB (wh _) (by simp[eC]) ?_;simp[eC];refine .uc bS (by simp) hG (by simp;exact H.oQ nl x gu gg _ (by intro n hn;simp at hn;simp;omega)) ?_;simp[q1];exact H.oQ nl x gu gg _ (by intro n hn;simp at hn;simp;omega)
 ·have hby:fA a=.r9 a:=by unfold fA;rw[if_neg h2]
  have hG:=fun g (hg:bS g/\g[8]? =some (.map (x.bn.map lh) true))=>Np (Γ:=Γ) a ha x.bn (q:=8) (h:=g) hg.2 hg.1
  have q1:(1:Int)<a:=by omega
  have q2:((a:Int)%2=0)=(a%2=0):=propext (by omega);rw[hby]at hB
  by_cases h0:a%2=0
  ·have hout:mz x.bn s a=nD s 2 (.list true 1 [.str (dt x.bn a)]):=by
    unfold mz;rw[if_pos ⟨by omega,h0⟩]
   rw[hout];unfold dt at*
   cases hg:getM a x.bn with
   |none=>
    rw[hg]at hlk;simp at hlk;simp;refine .ea 60 ?_;simp;refine .quiet hB (wh _) (by simp[eC]) ?_;simp[eC];refine .uc (fun g=>bS g/\g[8]? =some (.map (x.bn.map lh) true)) (by simp) hG (by simp;exact H.oQ nl x gu gg _ (by intro n hn;simp at hn;simp;omega)) ?_;simp[q1,hbit,q2,h0,hlk,isKey,bN,b9];exact H.oQ nl x gu gg _ (by intro n hn;simp at hn;simp;omega)
   |some r=>
    rw[hg]at hlk;simp at hlk;simp;refine .ea 60 ?_;simp;refine .quiet hB (wh _) (by simp[eC]) ?_;simp[eC];refine .uc (fun g=>bS g/\g[8]? =some (.map (x.bn.map lh) true)) (by simp) hG (by simp;exact H.oQ nl x gu gg _ (by intro n hn;simp at hn;simp;omega)) ?_;simp[q1,hbit,q2,h0,hlk,isKey,bN,b9];exact H.oQ nl x gu gg _ (by intro n hn;simp at hn;simp;omega)
  ·have hout:mz x.bn s a=nD s 3 (.list true 1 [.str (dt x.bn (a^^^1))]):=by
    unfold mz;rw[if_neg (by omega),hby];rfl
   rw[hout];simp;refine .ea 60 ?_;simp;refine .quiet hB (wh _) (by simp[eC]) ?_;simp[eC];refine .uc (fun g=>bS g/\g[8]? =some (.map (x.bn.map lh) true)) (by simp) hG (by simp;exact H.oQ nl x gu gg _ (by intro n hn;simp at hn;simp;omega)) ?_;simp[q1,hbit,q2,h0];exact H.oQ nl x gu gg _ (by intro n hn;simp at hn;simp;omega)
end
section
variable{a0 a1 a2 a3 a4 a5 rL:Ob}{I O:AV}{tl:List Ob}
theorem agJ(H:iQ a0 a1 a2 a3 a4 a5 I O rL tl)(nl:Nat)(x:Ra)(gu gg:Option Nat)(hg:gg=none\/gg=some 0)(hl:x.af.length<2^30)(s r:Bs):∀up,AM.Reach Tryz.prog Γ (.cl te [nD s 2 (.list true 1 [.str r]),.ptr 7 0] up (dV a0 a1 a2 a3 a4 a5 I O nl x gu gg rL tl))
 (.back up (.aH []) (dV a0 a1 a2 a3 a4 a5 I O nl ⟨x.af++[eL s 2 [r]],x.used,x.bn⟩ gu (some 0) rL tl)):=by
 intro up;have hw:=H.wf nl ⟨x.af++[eL s 2 [r]],x.used,x.bn⟩ gu (some 0)
 have hle:(x.af.length+1)*80<=140737488355328:=by omega
 refine .HW [.cells (AV.cells (nD s 2 (.list true 1 [.str r])))] (by simp) hw rfl ?_
 rcases hg with rfl|rfl<;>(
  refine .bt 60 LY ?_;simp;refine .ea 60 ?_;simp(disch:=omega) [eL,hle]
  exact .refl _)
theorem agC(H:iQ a0 a1 a2 a3 a4 a5 I O rL tl)(nl:Nat)(x:Ra)(gu gg:Option Nat)(hg:gg=none\/gg=some 0)(hl:x.af.length<2^30)(s:Bs)(a:Nat):∀up,AM.Reach Tryz.prog Γ (.cl te [mz x.bn s a,.ptr 7 0] up (dV a0 a1 a2 a3 a4 a5 I O nl x gu gg rL tl))
 (.back up (.aH []) (dV a0 a1 a2 a3 a4 a5 I O nl ⟨x.af++[mN x.bn s a],x.used,x.bn⟩ gu (some 0) rL tl)):=by
 unfold mz mN
 by_cases h:2<=a/\a%2=0
 ·rw[if_pos h,if_pos h];exact agJ H nl x gu gg hg hl s _
 ·rw[if_neg h,if_neg h];exact Rz H nl x gu gg hg hl x.bn (fA a) s
set_option maxRecDepth 8000 in
theorem aiU(n:Md)(og:n.g.Ok)(hI:n.an.length<2^30)(hL:n.ah.length<2^30)(hlo:n.aw.length=n.g.outs.length)(H:iQ (.cells (AV.cells (eb n))) a1 a2 a3 a4 a5 I O rL [])(nl:Nat)(N:List (Nat×Bs))(U:List Bs)(G:List Gt){o:Out}
 (hc:∀gu gg,gu=none\/gu=some 0->gg=none\/gg=some 0->aA Tryz.prog Γ (ybD (.ptr 1 0) (.ptr 6 0) (dV (.cells (AV.cells (eb n))) a1 a2 a3 a4 a5 I O nl ⟨G,U,N⟩ gu gg rL [])) o):
 ∀k i:Nat,i+k=n.aw.length->∀(gs:List Gt)(gu gg:Option Nat),gu=none\/gu=some 0->gg=none\/gg=some 0->gs.length<=40000+i->gs++ij n N (n.aw.drop i) (n.g.outs.drop i)=G->
 aA Tryz.prog Γ (ybC (.ptr 0 0) (.ptr 1 0) (.ptr 6 0) (.list false n.kO (n.aw.map .str)) (.int .i64 n.aw.length) (.int .i64 i) (dV (.cells (AV.cells (eb n))) a1 a2 a3 a4 a5 I O nl ⟨gs,U,N⟩ gu gg rL [])) o:=by
 have o1:=og.ju;have hlt:=kQ og;intro k
 induction k with
 |zero=>
  intro i hi gs gu gg hu hg hl hG
  have q1:¬i<n.aw.length:=by omega
  rw[bA (by omega),ij,ee]at hG
  ·subst hG;refine .dW 60 ?_;simp[q1];exact .reach (.exit rfl rfl) (hc gu gg hu hg)
  ·intro s l a r h;cases h
 |succ k ih=>
  intro i hi gs gu gg hu hg hl hG
  have q1:i<n.aw.length:=by omega
  have q2:=bR (n.hO.of q1)
  have q3:i<n.g.outs.length:=by omega
  have q4:=bR (n.g.ho.of q3);obtain⟨b1,b2⟩:=og.outs _ (bw q3);obtain⟨a,ha⟩:=gB b1;have hP:=Pn (Γ:=Γ) n n.aw[i] hI hL;rw[bJ q1,bJ q3,ij,ha]at hG;simp only[dX]at hG;have hR1:=adB (Γ:=Γ) H nl ⟨gs,U,N⟩ gu gg n.aw[i] a (by omega);have hR2:=agC (Γ:=Γ) H nl ⟨gs,U,N⟩ gu gg hg (by simp;omega) n.aw[i] a;generalize dn n n.aw[i]=pl at*;refine .go 60 ?_;simp[q1,q2];refine .call 60 (by simp) hP ?_
  by_cases hp:pl<0
  ·rw[if_pos hp]at hG;have hh:=ih (i+1) (by omega) (gs++[mN N n.aw[i] a]) gu (some 0) hu (.inr rfl) (by simp;omega) (by rw[<-hG];simp);simp[hp];refine .dr 60 ?_;simp[q3,q4,ha];refine .reach (by simp) hR1 ?_;simp;refine .reach (by simp) hR2 ?_;simp(disch:=omega);refine .aO ?_;simp at hh⊢;exact hh
  ·rw[if_neg hp]at hG;have hh:=ih (i+1) (by omega) gs gu gg hu hg (by omega) hG;simp(disch:=omega) [hp];refine .aO ?_;simp at hh⊢;exact hh
end
end Go.Proofs.YtchjijfjidlpjaaGreatDoor
namespace Go.Proofs.YtchjijfjidlpjaaGreatDoor
open Go.AM Go.Proofs
theorem GD.ins{N:List Bs}{V:List Nat}{first:Nat}{ands:List (Int×Int)}{pos t t2 d:Nat}{g:Gt}(h:GD N V first ands pos t g d t2):jj g=true/\∀s∈g.ins,∃k,k<pos/\N[k]? =some s:=by
 cases h with
 |const s b=>
  refine⟨by cases b<;>simp[uj,jj,lg],fun s hs=>?_⟩;simp[uj]at hs
 |buf s k r a h1 h2 h3=>
  refine⟨by simp[eL,jj,lg],fun s hs=>?_⟩;simp only[eL,cE]at hs;subst hs;exact⟨k,h1,h2⟩
 |not s k r a h1 h2 h3=>
  refine⟨by simp[eL,jj,lg],fun s hs=>?_⟩;simp only[eL,cE]at hs;subst hs;exact⟨k,h1,h2⟩
 |and s k1 k2 r1 r2 p q h1 h2 h3 h4 h5 h6 h7=>
  refine⟨by simp[eL,jj,lg],fun s hs=>?_⟩;simp only[eL,bz,o5,oT]at hs
  rcases hs with rfl|rfl
  ·exact⟨k1,h1,h3⟩
  ·exact⟨k2,h2,h4⟩
theorem iy.Ah{n:Md}{V:List Nat}{ts:Nat->Nat}(h:iy n V ts):(aJ n).ah.length=n.ah.length:=by
 have:=congrArg List.length h.RY;rwa[fC]at this
theorem iy.base{n:Md}{V:List Nat}{ts:Nat->Nat}(h:iy n V ts):(aJ n).an.length+(aJ n).ah.length=(n.an++n.ah).length:=by
 rw[h.Ah,bu];rfl
theorem iy.zK{n:Md}{V:List Nat}{ts:Nat->Nat}(h:iy n V ts){i:Nat}(hi:i<(aJ n).af.length):jj (aJ n).af[i]=true/\∀s∈(aJ n).af[i].ins,∃k,k<(n.an++n.ah).length+i/\(aD (aJ n))[k]? =some s:=by
 obtain⟨d,_,h1⟩:=h.gd i hi;exact h1.ins
theorem yD{α:Type}{l:List α}{k:Nat}{a:α}(h:l[k]? =some a):a∈l:=i_ h
theorem iy.zr{n:Md}(ok:jU n){V:List Nat}{ts:Nat->Nat}(h:iy n V ts){q:Lt}(hq:q∈(aJ n).ah):q.next∈aD (aJ n):=by
 obtain⟨i,hi,rfl⟩:=gC hq;obtain⟨q,h1,k,h2,_⟩:=h.next i (by rw[<-ok.lL,<-h.Ah];exact hi);rw[aR hi]at h1
 cases h1
 exact yD h2
theorem iy.Ik{n:Md}(ok:jU n){V:List Nat}{ts:Nat->Nat}(h:iy n V ts){s:Bs}(hs:s∈n.aw):s∈aD (aJ n):=by
 obtain⟨i,hi,rfl⟩:=gC hs;obtain⟨k,h2,_⟩:=h.outs i (by rw[<-ok.lO];exact hi) hi;exact yD h2
theorem iy.ok{n:Md}(ok:jU n)(hs:n.g.strict=true){V:List Nat}{ts:Nat->Nat}(h:iy n V ts)(hl:gf (aJ n)=false):e_ (aJ n):=by
 obtain⟨o,_,_⟩:=qe hs;have hl2:=hl;simp only[gf,kJ,iD]at hl2;have hb:=h.base
 have hnet:∀s∈aD (aJ n),fK s=true:=fun s hs=>by
  rcases h.names s hs with h1|⟨j,hj,rfl⟩
  ·exact ok.names s h1
  ·exact MZ hj
 have hI:(aJ n).an=n.an:=rfl;have hO:(aJ n).aw=n.aw:=rfl;refine⟨hl,fun s hs=>?_,Hk h.nd,Hk ok.JS,fun q hq=>?_,fun g hg=>?_,fun s hs=>?_⟩
 ·simp only[mB,pt,pw,aT,oV,hI,hO]at hs
  rcases hs with((hs|hs)|⟨q,hq,hs⟩)|⟨g,hg,hs⟩
  ·exact ok.names s (by simp[hs])
  ·exact ok.names s (by simp[hs])
  ·simp only[bz,o5,oT]at hs
   rcases hs with rfl|rfl
   ·refine hnet _ ?_;simp only[aD,aT];exact .inl (.inr (cd.2 ⟨q,hq,rfl⟩))
   ·exact hnet _ (h.zr ok hq)
  ·simp only[bz]at hs
   rcases hs with rfl|hs
   ·refine hnet _ ?_;simp only[aD,aT];exact .inr (cd.2 ⟨g,hg,rfl⟩)
   ·obtain⟨i,hi,rfl⟩:=gC hg;obtain⟨k,_,h2⟩:=(h.zK hi).2 s hs;exact hnet _ (yD h2)
 ·have h1:q.init∈n.g.init:=by rw[<-h.RZ];exact cd.2 ⟨q,hq,rfl⟩
  have:=o.init _ h1;simp[mn,this]
 ·obtain⟨i,hi,rfl⟩:=gC hg;exact(h.zK hi).1
 ·simp only[fm,mF,aT,oV,hO]at hs
  rcases hs with(hs|hs)|⟨g,hg,hs⟩
  ·exact h.Ik ok hs
  ·obtain⟨q,hq,rfl⟩:=cd.1 hs;exact h.zr ok hq
  ·obtain⟨i,hi,rfl⟩:=gC hg;obtain⟨k,_,h2⟩:=(h.zK hi).2 s hs;exact yD h2
theorem iy.sort{n:Md}{V:List Nat}{ts:Nat->Nat}(h:iy n V ts):bm (aJ n)=List.range (aJ n).af.length:=by
 refine aaD fun i hi x hx=>?_
 obtain⟨_,hxl⟩:=zV hx;unfold gX at hx;rw[aR hi,aR hxl]at hx;simp only[E1]at hx;obtain⟨k,hk,he⟩:=(h.zK hi).2 _ hx;obtain⟨h1,h2⟩:=Db (aJ n) hxl;obtain⟨hk2,he2⟩:=db.1 he;have:=(E8 (h₀:=hk2) (h₁:=h1) h.nd).1 (he2.trans h2.symm);have hb:=h.base;omega
theorem aa9{c:Ct}(ok:e_ c)(h:bm c=List.range c.af.length):nQ c=true:=by
 have hr:=zk ok
 have hn:mr c=[]:=by
  have h2:=acz c;rw[h,pV]at h2;rw[mr,if_pos hr,h];exact lr.1 (by omega)
 unfold nQ oi;rw[Cd ok,hn];rfl
theorem PU(c:Ct):∀(l l2:List Nat)(x:Gr)(v:List Nat),ku c (l++l2) x v=fL (ku c l x v) fun y w=>ku c l2 y w
 |[],l2,x,v=>rfl
 |a::l,l2,x,v=>by
  rw[eo,ku,ku]
  cases c.af[a]? with
  |none=>rfl
  |some g=>
   simp only
   cases jS x g (cD ((aD c).zip v) g.ins)with
   |mk y o=>
    cases o with
    |none=>rfl
    |some d=>simp only[fL];exact PU c l l2 y _
theorem zE{N:List Bs}{v V:List Nat}(hn:N.Nodup)(hv:v.length=N.length)(hV:V.length=N.length){pos k:Nat}{r:Bs}{a:Nat}(hp:v.take pos=V.take pos)(hk:k<pos)(h1:N[k]? =some r)(h2:V[k]? =some a):oR (N.zip v) r=a:=by
 obtain⟨hk1,rfl⟩:=db.1 h1;rw[qN N v k hn hk1 hv]
 have h3:(v.take pos)[k]? =(V.take pos)[k]? :=by rw[hp]
 rw[mV hk,mV hk,h2,aR (by omega)]at h3;simpa using h3
theorem Om(x:Gr)(a:Nat):iJ 0 x [a]=(x,some a):=by simp[iJ,kX]
theorem aca(x:Gr)(p q:Nat):iJ 0 x [p,q]=eY x p q:=by
 simp only[iJ,kX,xq]
 cases eY x p q with
 |mk y o=>cases o<;>rfl
structure su(n:Md)(c:Ct)(t:Nat)(x:Gr):Prop where
 grow:il (dC c) x
 ands:x.ands=n.g.ands.take t
theorem su.and{n:Md}{c:Ct}(hs:n.g.strict=true)(h1:(c.an.length:Int)=n.g.ins)(h2:c.ah.length=n.g.next.length){t:Nat}{x:Gr}(h:su n c t x){p q:Nat}(hp:n.g.ands[t]? =some ((p:Int),(q:Int))):
 ∃y,eY x p q=(y,some (2*(n.g.first+t)))/\su n c (t+1) y:=by
 obtain⟨o,so,_⟩:=qe hs;obtain⟨ht,he⟩:=db.1 hp;obtain⟨p',q',e,a1,a2,a3,a4⟩:=so.at_ t ht;rw[he]at e;simp only[bY,Int.natCast_inj]at e;obtain⟨rfl,rfl⟩:=e;have hnew:=HI (first:=n.g.first) (l:=n.g.ands.take t) a1 a2 a3 (by rw[<-he];exact BK so.nd ht)
 have hf:x.first=n.g.first:=by
  rw[h.grow.first];simp only[Gr.first,dC,pW,dX];omega
 have hlen:(n.g.ands.take t).length=t:=by simp;omega
 have hsum:=o.sum
 have hins:x.ins=n.g.ins:=by rw[h.grow.ins];exact h1
 have hnx:x.next.length=n.g.next.length:=by rw[h.grow.next];simp[dC,h2]
 have hE:x.kq p q=0:=by
  unfold Gr.kq;rw[if_neg (by rw[Gr.qn h.grow.ok];decide),if_neg,if_neg]
  ·simp only[dX,hf,h.ands,hnew,hins,hnx,bu,bE,cS,hlen];omega
  ·have hl:x.lits=2*(n.g.first+t):=by unfold Gr.lits Gr.all;rw[hf,h.ands,hlen]
   simp only[eG,hl,ff,aZ];omega
 refine⟨x.ez p q,?_,?_⟩
 ·unfold eY;rw[if_pos hE];simp only[Gr.fw,hE,cy,dX,hf,h.ands,hnew,hlen]
 ·have hO:eY x p q=(x.ez p q,some (x.fw p q)):=by unfold eY;rw[if_pos hE]
  refine⟨h.grow.trans (o_ h.grow.ok hO).1,?_⟩;simp only[Gr.ez,hE,cy,Gr.jE,dX,hf,h.ands,hnew];rw[kK ht,he]
theorem GD.lower{n:Md}{c:Ct}(hs:n.g.strict=true)(h1:(c.an.length:Int)=n.g.ins)(h2:c.ah.length=n.g.next.length){V v:List Nat}{pos t t2 d:Nat}{g:Gt}(hg:GD (aD c) V n.g.first n.g.ands pos t g d t2)(hn:(aD c).Nodup)(hv:v.length=(aD c).length)(hV:V.length=(aD c).length)(hp:v.take pos=V.take pos){x:Gr}(h:su n c t x):
 ∃y,jS x g (cD ((aD c).zip v) g.ins)=(y,some d)/\su n c t2 y:=by
 cases hg with
 |const s b=>
  refine⟨x,?_,h⟩
  cases b<;>simp[jS,uj,nH,eF]
 |buf s k r a k1 k2 k3=>
  refine⟨x,?_,h⟩;have e:=zE hn hv hV hp k1 k2 k3;simp[jS,eL,nH,eF,cD,e,Om]
 |not s k r a k1 k2 k3=>
  refine⟨x,?_,h⟩;have e:=zE hn hv hV hp k1 k2 k3;simp[jS,eL,nH,eF,cD,e,Om]
 |and s k1 k2 r1 r2 p q a1 a2 a3 a4 a5 a6 a7=>
  have e1:=zE hn hv hV hp a1 a3 a5;have e2:=zE hn hv hV hp a2 a4 a6;obtain⟨y,y1,y2⟩:=h.and hs h1 h2 a7;refine⟨y,?_,y2⟩;simp[jS,eL,nH,eF,cD,e1,e2,aca,y1]
theorem iy.lowers{n:Md}(ok:jU n)(hs:n.g.strict=true){V:List Nat}{ts:Nat->Nat}(h:iy n V ts)(hc:cK (aJ n))(okc:e_ (aJ n)):
 ∃y,pJ (aJ n)=(y,some V)/\su n (aJ n) n.g.ands.length y:=by
 have hb:=h.base;have h1:((aJ n).an.length:Int)=n.g.ins:=ok.lI
 have h2:(aJ n).ah.length=n.g.next.length:=by rw[h.Ah];exact ok.lL
 have hN:=vL (aJ n)
 have key:∀i,i<=(aJ n).af.length->∃y v,ku (aJ n) (List.range i) (dC (aJ n)) (gM (aD (aJ n)).length)=(y,some v)/\su n (aJ n) (ts i) y/\v.length=(aD (aJ n)).length/\v.take ((n.an++n.ah).length+i)=V.take ((n.an++n.ah).length+i):=by
  intro i
  induction i with
  |zero=>
   intro _;refine⟨_,_,rfl,⟨.refl (Ig hc okc),by rw[h.t0];rfl⟩,vy _,?_⟩
   refine iC fun k=>?_
   by_cases hk:k<(n.an++n.ah).length
   ·rw[mV (by omega),mV (by omega),h.low k hk];simp[gM,jn,Lw (show k<(aD (aJ n)).length by omega)]
   ·rw[fS (by simp only[eR];omega),fS (by simp only[eR];omega)]
  |succ i ih=>
   intro hi;obtain⟨y,v,e,hh,hv,hp⟩:=ih (by omega);obtain⟨d,hd,hg⟩:=h.gd i (by omega);obtain⟨z,hz,hz2⟩:=hg.lower hs h1 h2 h.nd hv h.len hp hh;refine⟨z,v.set ((n.an++n.ah).length+i) d,?_,hz2,by simpa using hv,?_⟩
   ·rw[E5,PU,e];simp only[fL];rw[GC _ (by omega),hz,hb];rfl
   ·refine iC fun k=>?_
    by_cases hk:k<(n.an++n.ah).length+(i+1)
    ·rw[mV hk,mV hk]
     by_cases hk2:k=(n.an++n.ah).length+i
     ·subst hk2;rw[hd,eI (by omega)]
     ·rw[dM (by omega)]
      have h3:(v.take ((n.an++n.ah).length+i))[k]? =(V.take ((n.an++n.ah).length+i))[k]? :=by rw[hp]
      rwa[mV (by omega),mV (by omega)]at h3
    ·rw[fS (by simp only[eR];omega),fS (by simp only[eR];omega)]
 obtain⟨y,v,e,hh,hv,hp⟩:=key _ (aQ _)
 have hvV:v=V:=by
  have h3:=h.len;rwa[cR (by omega),cR (by omega)]at hp
 subst hvV;rw[h.tN]at hh;refine⟨y,?_,hh⟩;unfold pJ;rw[h.sort];exact e
theorem iy.aey{n:Md}(ok:jU n)(hs:n.g.strict=true){V:List Nat}{ts:Nat->Nat}(h:iy n V ts){y:Gr}(hy:su n (aJ n) n.g.ands.length y):fX (cv (aJ n) y V) n.g=true:=by
 have hb:=h.base;obtain⟨o,_,_⟩:=qe hs
 have hlk:∀{k:Nat}{r:Bs}{a:Nat},(aD (aJ n))[k]? =some r->V[k]? =some a->oR ((aD (aJ n)).zip V) r=a:=fun{k r a} h1 h2=>
  zE (pos:=k+1) h.nd h.len h.len rfl (by omega) h1 h2
 have e1:(cv (aJ n) y V).ins=n.g.ins:=by
  show y.ins=_
  rw[hy.grow.ins];exact ok.lI
 have e2:(cv (aJ n) y V).next=n.g.next:=by
  refine iC fun i=>?_
  by_cases hi:i<n.g.next.length
  ·obtain⟨q,h1,k,h2,h3⟩:=h.next i hi;have hpos:=o.next _ (bw hi);simp only[cv,cD,jn,h1,dm,hlk h2 h3,aR hi];congr 1;omega
  ·have hl:(aJ n).ah.length<=i:=by rw[h.Ah,ok.lL];omega
   rw[fS (l:=n.g.next) (by omega),fS]
   simp only[cv,cD,fC];exact hl
 have e3:(cv (aJ n) y V).init=n.g.init:=by
  show y.init=_
  rw[hy.grow.init];exact h.RZ
 have e4:(cv (aJ n) y V).ands=n.g.ands:=by
  show y.ands=_
  rw[hy.ands,w7]
 have e5:(cv (aJ n) y V).outs=n.g.outs:=by
  refine iC fun i=>?_
  by_cases hi:i<n.g.outs.length
  ·have hi2:i<n.aw.length:=by rw[ok.lO];exact hi
   obtain⟨k,h2,h3⟩:=h.outs i hi hi2;have hpos:=o.outs _ (bw hi);have hO:(aJ n).aw[i]? =some n.aw[i]:=aR hi2;simp only[cv,cD,jn,hO,dm,hlk h2 h3,aR hi];congr 1;omega
  ·have hl:n.aw.length<=i:=by rw[ok.lO];omega
   rw[fS (l:=n.g.outs) (by omega),fS]
   simp only[cv,cD,fC];exact hl
 simp[fX,e1,e2,e3,e4,e5]
theorem BN{s:Bs}(h:fK s=true):s.length<2^40:=by
 unfold fK at h;simp only[ay,aZ]at h;have:=h.2;omega
theorem GD.small{N:List Bs}{V:List Nat}{first:Nat}{ands:List (Int×Int)}{pos t t2 d:Nat}{g:Gt}(h:GD N V first ands pos t g d t2):g.ins.length<=2/\g.rows=[]:=by
 cases h<;>simp[uj,eL]
theorem iy.b{n:Md}(ok:jU n)(hs:n.g.strict=true){V:List Nat}{ts:Nat->Nat}(h:iy n V ts):kF (aJ n):=by
 obtain⟨o,_,_⟩:=qe hs;have h1:=ok.lI;have h2:=ok.lL;have h3:=ok.lO;have h4:=o.sum;have h5:=o.ju;have h6:=h.Ah;have h7:=h.Sv
 have hnet:∀s∈aD (aJ n),s.length<2^40:=fun s hs=>by
  rcases h.names s hs with h1|⟨j,hj,rfl⟩
  ·exact BN (ok.names s h1)
  ·exact BN (MZ hj)
 have hg:∀g∈(aJ n).af,g.name∈aD (aJ n):=fun g hg=>by
  simp only[aD,aT];exact .inr (cd.2 ⟨g,hg,rfl⟩)
 have hI:(aJ n).an=n.an:=rfl;have hO:(aJ n).aw=n.aw:=rfl;refine⟨by rw[hI];omega,by rw[hO];omega,by omega,by omega,fun g hg2=>?_,fun s hs=>?_,fun s hs=>?_,fun q hq=>⟨?_,?_⟩⟩
 ·obtain⟨i,hi,rfl⟩:=gC hg2;obtain⟨d,_,h8⟩:=h.gd i hi
  have h9:=fun s hs=>(h.zK hi).2 s hs
  obtain⟨s1,s2⟩:=h8.small;refine⟨hnet _ (hg _ hg2),by omega,by rw[s2];simp,fun s hs=>?_,by rw[s2];simp⟩;obtain⟨k,_,h2⟩:=h9 s hs;exact hnet _ (yD h2)
 ·exact BN (ok.names s (by rw[hI]at hs;simp[hs]))
 ·exact BN (ok.names s (by rw[hO]at hs;simp[hs]))
 ·refine hnet _ ?_;simp only[aD,aT];exact .inl (.inr (cd.2 ⟨q,hq,rfl⟩))
 ·exact hnet _ (h.zr ok hq)
theorem abQ{c:Ct}(h:gf c=true):er c=(8,[]):=by unfold er;rw[if_pos h]
theorem P1{m:Md}(h:jc m=0):jU (bI m)/\(bI m).g.strict=true/\kF (aJ (bI m))/\((gf (aJ (bI m))=true/\fH m=(oL,8))\/(gf (aJ (bI m))=false/\fH m=(aJ (bI m),0)/\e_ (aJ (bI m))/\nQ (aJ (bI m))=true)):=by
 obtain⟨ok,hs⟩:=(adb h).norm;obtain⟨V,ts,D⟩:=Lc ok hs;refine⟨ok,hs,D.b ok hs,?_⟩;unfold fH;rw[if_pos h]
 cases hl:gf (aJ (bI m))with
 |true=>
  rw[abQ hl];exact .inl ⟨rfl,rfl⟩
 |false=>
  have okc:=D.ok ok hs hl;rw[Cd okc];exact .inr ⟨rfl,rfl,okc,aa9 okc D.sort⟩
theorem GG{m:Md}(h:(fH m).2=0):jc m=0/\jU (bI m)/\(bI m).g.strict=true/\(fH m).1=aJ (bI m)/\kF (aJ (bI m))/\e_ (aJ (bI m))/\nQ (aJ (bI m))=true:=by
 have h0:jc m=0:=by
  unfold fH at h
  split at h
  ·assumption
  ·exact h
 obtain⟨a,b,c,d⟩:=P1 h0
 rcases d with⟨_,e⟩|⟨_,e,f,g⟩
 ·rw[e]at h;cases h
 ·exact⟨h0,a,b,by rw[e],c,f,g⟩
theorem Nu{m:Md}(h:(fH m).2=0):∃y v,pJ (aJ (bI m))=(y,some v)/\tZ (aJ (bI m))=(ep (aJ (bI m)) y v,0,[])/\fX (cv (aJ (bI m)) y v) (bI m).g=true/\qL (ep (aJ (bI m)) y v) (bI m)=true:=by
 obtain⟨h0,ok,hs,e,hb,okc,ho⟩:=GG h;obtain⟨V,ts,D⟩:=Lc ok hs;have hc:=rP hb (zk okc);obtain⟨y,hy,hh⟩:=D.lowers ok hs hc okc;have hsame:=D.aey ok hs hh
 have hst:(cv (aJ (bI m)) y V).strict=true:=by rw[(MG hsame).2.2.2.2.1];exact hs
 refine⟨y,V,hy,?_,hsame,?_⟩
 ·unfold tZ;rw[if_pos (A4 ho),hy]
 ·have h1:=FD (Mq hst) hsame;have h2:(aJ (bI m)).ah.map (·.name)=(bI m).ah:=D.RY;simp only[qL,ep,h1,h2,sR];simp[aJ]
theorem O8{a b:Md}(h:qL a b=true):fX a.g b.g=true/\a.an=b.an/\a.ah=b.ah/\a.aw=b.aw:=by
 simp only[qL,ay,aZ]at h;exact⟨h.1,h.2.1,h.2.2.1,h.2.2.2⟩
theorem Nk{a b:Md}(h1:a.an=b.an)(h2:a.ah=b.ah)(m:List (Nat×Bs)):∀(l:List Bs)(r:List Int),ij a m l r=ij b m l r
 |[],r=>by simp[ij]
 |s::l,[]=>by simp[ij]
 |s::l,x::r=>by
  have e:dn a s=dn b s:=by unfold dn;rw[h1,h2]
  rw[ij,ij,Nk h1 h2 m l r,e]
theorem aeu{a b:Md}(h:qL a b=true):aJ a=aJ b:=by
 obtain⟨h1,h2,h3,h4⟩:=O8 h;obtain⟨e1,e2,e3,e4,e5⟩:=G3 h1
 have ef:a.g.first=b.g.first:=by unfold Gr.first;rw[e1,e2]
 have r0:iX a=iX b:=by unfold iX;rw[h2,h3,h4]
 have rA:oH a=oH b:=by unfold oH;rw[r0,ef,e4]
 have rL:dy a=dy b:=by unfold dy;rw[rA,h3,e2,e3]
 unfold aJ;simp only[rL,h2,h4,e5,Nk h2 h3]
theorem aa3{m:Md}(h:(fH m).2=0):fH (tZ (aJ (bI m))).1=(aJ (bI m),0):=by
 obtain⟨h0,ok,hs,e,hb,okc,ho⟩:=GG h;obtain⟨y,v,h1,h2,h3,h4⟩:=Nu h;obtain⟨m1,m2,m3⟩:=aeg hb ho h1;rw[h2]
 have hsame:qL (bI (ep (aJ (bI m)) y v)) (bI m)=true:=by
  obtain⟨q1,q2,q3,q4⟩:=O8 h4;have:=FD (Mq m2) q1;simp only[qL,ay,aZ];exact⟨this,q2,q3,q4⟩
 unfold fH;rw[if_pos m1,aeu hsame,Cd okc];rfl
end Go.Proofs.YtchjijfjidlpjaaGreatDoor
namespace Go.Proofs.YtchjijfjidlpjaaGreatDoor
open Go.AM Go.Proofs
variable{Γ:Nat->Option AV}
def dL{α:Type}(g:Option Nat):List α->Option Nat
 |[]=>g
 |_=>some 0
theorem vU{α:Type}(g:Option Nat):dL g ([]:List α)=g:=rfl
theorem adM{α:Type}(g:Option Nat)(a:α)(l:List α):dL g (a::l)=some 0:=rfl
theorem ady{α:Type}(l:List α):dL (some 0) l=some 0:=by cases l<;>rfl
theorem v_{α:Type}{g:Option Nat}(h:g=none\/g=some 0)(l:List α):dL g l=none\/dL g l=some 0:=by
 cases l
 ·exact h
 ·exact .inr rfl
section
variable{a0 a1 a2 a3 a4 a5 rL:Ob}{I O:AV}{tl:List Ob}
set_option maxRecDepth 8000 in
theorem SD(l:List Bs){fl:Bool}{kd:Nat}(hk:Kd 1 kd l)(hl:l.length<2^30)(x1 x46 x47 x48:AV)(e:Cx)(nl:Nat)(gg:Option Nat)(U:List Bs)(N2:List (Nat×Bs)){c:AM.ar}:
 ∀k i:Nat,i+k=l.length->∀(u:List Bs)(N:List (Nat×Bs))(gu:Option Nat),gu=none\/gu=some 0->u.length<2^31+i->(∀b,2*u.length<b->getM b N=none)->u++l.drop i=U->N++iL u.length (l.drop i)=N2->
 AM.Reach Tryz.prog Γ (yfE x1 (.ptr 7 0) x46 x47 x48 (dV a0 a1 a2 a3 a4 a5 I O nl ⟨[],U,N2⟩ (dL gu (l.drop i)) gg rL tl) e) c->
 AM.Reach Tryz.prog Γ (yfD x1 (.ptr 7 0) x46 x47 x48 (.list fl kd (l.map .str)) (.int .i64 l.length) (.int .i64 i) (dV a0 a1 a2 a3 a4 a5 I O nl ⟨[],u,N⟩ gu gg rL tl) e) c:=by
 intro k
 induction k with
 |zero=>
  intro i hi u N gu hu hul hN hU hN2 hc
  have q1:¬i<l.length:=by omega
  rw[bA (by omega),ee]at hU;rw[bA (by omega),iL,ee]at hN2;rw[bA (by omega),vU]at hc;subst hU;subst hN2;refine .dW 60 ?_;simp[q1];exact .trans (.exit rfl rfl) hc
 |succ k ih=>
  intro i hi u N gu hu hul hN hU hN2 hc
  have q1:i<l.length:=by omega
  have q2:=bR (hk.of q1);rw[bJ q1]at hU hN2 hc;rw[iL]at hN2;rw[adM,<-ady (l.drop (i+1))]at hc;have hput:=Ru (a:=2*(u.length+1)) l[i] (hN _ (by omega));have hh:=ih (i+1) (by omega) (u++[l[i]]) (N++[(2*(u.length+1),l[i])]) (some 0) (.inr rfl) (by simp;omega) (fun b hb=>OA (hN b (by simp at hb;omega)) (by simp at hb;omega)) (by rw[<-hU];simp) (by rw[<-hN2];simp) hc
  have hle:(u.length+1)*16<=140737488355328:=by omega
  have e1:(2*((u.length:Int)+1))=((2*(u.length+1):Nat):Int):=by omega
  rw[<-e1]at hput
  rcases hu with rfl|rfl
  all_goals
   refine .dW 60 ?_;simp[q1,q2];refine .UE 60 ?_;simp(disch:=omega) [hle,hput,isKey,bN,b9];refine .aO ?_;simp[dV]at hh⊢;exact hh
theorem ON:∀(l l2:List Bs)(k:Nat),iL k (l++l2)=iL k l++iL (k+l.length) l2
 |[],l2,k=>by simp[iL]
 |s::l,l2,k=>by
  rw[eo,iL,iL,ON l l2 (k+1),eo,bE,show k+1+l.length=k+(l.length+1) by omega]
theorem Gj:∀(l:List Bs)(k b:Nat),2*(k+l.length)<b->getM b (iL k l)=none
 |[],k,b,h=>rfl
 |s::l,k,b,h=>by
  simp only[bE]at h;rw[iL,getM,if_neg (by omega)];exact Gj l (k+1) b (by omega)
abbrev wR:Ob:=.cells [.sl 2 0 0,.sl 3 0 0,.sl 4 0 0,.sl 5 0 0]
abbrev nR:Ob:=.row 1 au [] none true false
abbrev wU:Ob:=.row 3 mX [] none true false
abbrev wP:Ob:=.row 5 qc [] none true false
set_option maxRecDepth 8000 in
theorem aer(n:Md)(hI:n.an.length<2^20)(hL:n.ah.length<2^20)(hO:n.aw.length<2^20):∀up,AM.Reach Tryz.prog Γ (.cl th [eb n] up [.cells (AV.cells (eb n)),wR,nR,nR,wU,wP])
 (.back up (.ptr 6 0) (dV (.cells (AV.cells (eb n))) wR nR nR wU wP (.list false 1 (n.an.map .str)) (.list false 1 (n.aw.map .str)) 0 (iX n) (dL (dL (dL none n.an) n.ah) n.aw) none (.row 3 mX [] none true false)
  [.row 1 au (n.an.map .str) (dL none n.an) true true,.row 1 au (n.aw.map .str) (dL none n.aw) true true,.cells (AV.cells (eb n))])):=by
 intro up;have hkI:(n.kI=1\/n.an=[])=True:=bR n.hI;have hkO:(n.kO=1\/n.aw=[])=True:=bR n.hO;refine .bt 60 YQ ?_;simp;refine .trans (.mj (i:=8) (j:=4) (k:=1) au rfl rfl (by omega)) ?_;simp;refine .trans (.mj (i:=8) (j:=3) (k:=5) qc rfl rfl (by omega)) ?_;simp;refine .trans (.mj (i:=8) (j:=2) (k:=3) mX rfl rfl (by omega)) ?_;simp;refine .trans (.mj (i:=8) (j:=0) (k:=1) au rfl rfl (by omega)) ?_;simp;refine .trans (.mj (i:=8) (j:=1) (k:=1) au rfl rfl (by omega)) ?_;simp;refine .q9 6 [2,3,1,4,5,6,7,8,0] (by simp) (by decide) ?_;simp;refine .trans (.RI [9]) ?_;simp[share,eS];have e1:(n.an.length*16<=140737488355328)=True:=bR (by omega);have e2:(n.aw.length*16<=140737488355328)=True:=bR (by omega)
 have k1:¬n.an=[]->n.kI=1:=fun h=>n.hI.resolve_right h
 have k2:¬n.aw=[]->n.kO=1:=fun h=>n.hO.resolve_right h
 have hL2:∀oI oO:Ob,AM.Reach Tryz.prog Γ (yfG (.ptr 14 0) (.ptr 7 0) (.list true 1 [.list false n.kI (n.an.map .str),.list false n.kL (n.ah.map .str)]) (.int .i64 2) (.int .i64 0)
  (dV (.cells (AV.cells (eb n))) wR nR nR wU wP (.list false 1 (n.an.map .str)) (.list false 1 (n.aw.map .str)) 0 ⟨[],[],[]⟩ none none (.row 3 mX [] none true false) [oI,oO,.cells (AV.cells (eb n))]) ⟨[],.norm,6,up⟩)
  (.back up (.ptr 6 0) (dV (.cells (AV.cells (eb n))) wR nR nR wU wP (.list false 1 (n.an.map .str)) (.list false 1 (n.aw.map .str)) 0 (iX n) (dL (dL (dL none n.an) n.ah) n.aw) none (.row 3 mX [] none true false) [oI,oO,.cells (AV.cells (eb n))])):=by
  intro oI oO;refine .a8 60 ?_;simp;refine .inLoop ?_;simp;refine SD (fl:=false) n.an n.hI (by omega) _ _ _ _ ⟨[],.norm,6,up⟩ 0 none n.an (iL 0 n.an) n.an.length 0 (by omega) [] [] none (.inl rfl) (by simp) (by simp[getM]) (by simp) (by simp) ?_;refine .a8 60 ?_;simp;refine .aO ?_;simp;refine .a8 60 ?_;simp;refine .inLoop ?_;simp;refine SD (fl:=false) n.ah n.hL (by omega) _ _ _ _ ⟨[],.norm,6,up⟩ 0 none (n.an++n.ah) (iL 0 (n.an++n.ah)) n.ah.length 0 (by omega) n.an (iL 0 n.an) (dL none n.an) (v_ (.inl rfl) _) (by omega) (fun b hb=>Gj _ _ _ (by omega)) (by simp) (by rw[ON];simp) ?_;refine .a8 60 ?_;simp;refine .aO ?_;simp;have hg:=v_ (v_ (.inl rfl:(none:Option Nat)=none\/(none:Option Nat)=some 0) n.an) n.ah;generalize dL (dL none n.an) n.ah=gu at hg⊢
  have e3:((n.an.length+n.ah.length+n.aw.length)*16<=140737488355328)=True:=bR (by omega);have e4:((n.an.length+n.ah.length)*16<=140737488355328)=True:=bR (by omega)
  by_cases hO0:n.aw=[]
  ·rcases hg with rfl|rfl<;>(
    refine .a8 60 ?_;simp;refine .ea 60 ?_
    simp[hO0,e4,hkO,vU,iX,dV]<;>exact .refl _)
  ·have m2:∀g,dL g n.aw=some 0:=by intro g;cases h:n.aw<;>simp_all [dL]
   rcases hg with rfl|rfl<;>(
    refine .a8 60 ?_;simp;refine .ea 60 ?_
    simp[hO0,e3,bR (k2 hO0),m2,iX,dV]<;>(simp only[lx];exact .refl _))
 by_cases hI0:n.an=[]
 ·by_cases hO0:n.aw=[]
  ·have m1:dL none n.an=none:=by rw[hI0];rfl
   have m2:dL none n.aw=none:=by rw[hO0];rfl
   refine .ea 60 ?_;simp[hkI,hkO,e1,e2,hI0,hO0];refine .trans (.iP (i:=6) 0 rfl) ?_;simp[eS,share];refine .trans (.iP (i:=6) 1 rfl) ?_;simp[eS,share];refine .inLoop ?_;simp;have hh:=hL2 (.row 1 au (n.an.map .str) none true true) (.row 1 au (n.aw.map .str) none true true);simp[hI0,hO0,m1,m2,vU]at hh⊢;exact hh
  ·have m1:dL none n.an=none:=by rw[hI0];rfl
   have m2:dL none n.aw=some 0:=by cases h:n.aw<;>simp_all [dL]
   refine .ea 60 ?_;simp[hkI,hkO,e1,e2,hI0,hO0,bR (k2 hO0)];refine .trans (.iP (i:=6) 0 rfl) ?_;simp[eS,share];refine .trans (.iP (i:=6) 1 rfl) ?_;simp[eS,share];refine .inLoop ?_;simp;have hh:=hL2 (.row 1 au (n.an.map .str) none true true) (.row 1 au (n.aw.map .str) (some 0) true true);simp[hI0,hO0,m1,m2,vU]at hh⊢;exact hh
 ·by_cases hO0:n.aw=[]
  ·have m1:dL none n.an=some 0:=by cases h:n.an<;>simp_all [dL]
   have m2:dL none n.aw=none:=by rw[hO0];rfl
   refine .ea 60 ?_;simp[hkI,hkO,e1,e2,hI0,hO0,bR (k1 hI0)];refine .trans (.iP (i:=6) 0 rfl) ?_;simp[eS,share];refine .trans (.iP (i:=6) 1 rfl) ?_;simp[eS,share];refine .inLoop ?_;simp;have hh:=hL2 (.row 1 au (n.an.map .str) (some 0) true true) (.row 1 au (n.aw.map .str) none true true);simp[hI0,hO0,m1,m2,vU]at hh⊢;exact hh
  ·have m1:dL none n.an=some 0:=by cases h:n.an<;>simp_all [dL]
   have m2:dL none n.aw=some 0:=by cases h:n.aw<;>simp_all [dL]
   refine .ea 60 ?_;simp[hkI,hkO,e1,e2,hI0,hO0,bR (k1 hI0),bR (k2 hO0)];refine .trans (.iP (i:=6) 0 rfl) ?_;simp[eS,share];refine .trans (.iP (i:=6) 1 rfl) ?_;simp[eS,share];refine .inLoop ?_;simp;have hh:=hL2 (.row 1 au (n.an.map .str) (some 0) true true) (.row 1 au (n.aw.map .str) (some 0) true true);simp[hI0,hO0,m1,m2,vU]at hh⊢;exact hh
end
theorem ada{n:Md}(og:n.g.Ok):∀k i:Nat,i+k=n.g.ands.length->∀x:Ra,oz x (2*(n.g.first+i)) (3*i)->oz (ny n.g.first (n.g.ands.drop i) i x) (2*(n.g.first+n.g.ands.length)) (3*n.g.ands.length):=by
 intro k
 induction k with
 |zero=>
  intro i hi x h
  obtain rfl:i=n.g.ands.length:=by omega
  rw[w6,ny];exact h
 |succ k ih=>
  intro i hi x h
  have q1:i<n.g.ands.length:=by omega
  obtain⟨⟨b1,b2⟩,b3,b4⟩:=og.ands i q1;rw[bJ q1,ny];have f1:=h.df (a:=n.g.ands[i].1.toNat) (by omega);have f2:=f1.df (a:=n.g.ands[i].2.toNat) (by omega);have f3:=f2.make (a:=2*(n.g.first+i)) (.both n.g.ands[i].1.toNat n.g.ands[i].2.toNat) (B':=2*(n.g.first+(i+1))) (by omega) (by omega);exact ih (i+1) (by omega) _ (by rw[show 3*(i+1)=3*i+1+1+1 by omega];exact f3)
set_option maxRecDepth 8000 in
theorem afB(hΓ:jz Γ)(hP:oE Γ)(n:Md)(ok:jU n)(hs:n.g.strict=true)(hCB:kF (aJ n))(gu:Option Nat)(hu:gu=none\/gu=some 0):
 aA Tryz.prog Γ (UJ (.ptr 0 0) (.ptr 1 0) (.ptr 6 0) (iN n.g.first) (.list false n.g.ka (n.g.ands.map c8)) (.int .i64 n.g.ands.length) (.int .i64 0) (dV (.cells (AV.cells (eb n))) wR nR nR wU wP (.list false 1 (n.an.map .str)) (.list false 1 (n.aw.map .str)) 0 (iX n) gu none (wF [] none) []))
  (.ret (.aH [cN (if(er (aJ n)).1=0 then aJ n else oL),.int .i64 (if(er (aJ n)).1=0 then 0 else 8)])):=by
 obtain⟨o,_,_⟩:=qe hs;obtain⟨V,ts,D⟩:=Lc ok hs;have h1:=ok.lI;have h2:=ok.lL;have h3:=ok.lO;have h4:=o.sum;have h5:=o.ju
 have hfi:=ok.first
 have hC:=Hn hΓ (aJ n) hCB
 have H:iQ (.cells (AV.cells (eb n))) wR nR nR wU wP (.list false 1 (n.an.map .str)) (.list false 1 (n.aw.map .str)) (wF [] none) []:=
  ⟨fun k hk=>by simp;omega,fun k hk=>by simp,fun k hk=>rfl⟩
 have F0:oz (iX n) (2*(n.g.first+0)) (3*0):=by
  refine⟨by simp[iX],by simp[iX];omega,fun b hb=>?_⟩;simp only[iX];refine Gj _ _ _ ?_;simp only[bu]at hfi⊢;omega
 have F1:=ada o n.g.ands.length 0 (by omega) (iX n) F0;rw[fg]at F1
 have hgl:(dy n).1.af.length<=40000:=by
  have h6:=D.Sv;have h7:(aJ n).af.length=(dy n).1.af.length+(ij n (dy n).1.bn n.aw n.g.outs).length:=bu;omega
 refine ajo hP n o H 0 (oH n) (fun gu gg hu hg=>?_) n.g.ands.length 0 (by omega) (iX n) gu none hu (.inl rfl) F0 (by rw[fg];rfl);refine .go 60 ?_;simp;refine .inLoop ?_;simp;refine ajn hP n o h2 H (dy n).1 (dy n).2 (fun gu gg gl hu hg hl=>?_) n.ah.length 0 (by omega) (oH n) [] gu gg none hu hg (.inl rfl) F1 rfl (by simp[dy]) (by simp[dy]);refine .go 60 ?_;simp;refine .inLoop ?_;simp;refine aiU n o (by omega) (by omega) h3 (H.AB (dy n).2 gl) (dy n).2.length (dy n).1.bn (dy n).1.used (aJ n).af (fun gu gg hu hg=>?_) n.aw.length 0 (by omega) (dy n).1.af gu gg hu hg (by omega) (by rw[fg,fg];rfl);have e1:(aJ n).an=n.an:=rfl;have e2:(aJ n).aw=n.aw:=rfl;have e3:(aJ n).ah=(dy n).2:=rfl;have e4:(aJ n).kI=1/\(aJ n).kO=1/\(aJ n).kL=3/\(aJ n).kG=5:=⟨rfl,rfl,rfl,rfl⟩
 rcases hg with rfl|rfl<;>rcases hl with rfl|rfl
 all_goals
  refine .go 60 ?_;simp;refine .call 60 (by simp[e1,e2,e3,e4]) hC ?_
  by_cases hc0:(er (aJ n)).1=0
  ·simp[hc0];exact .back (by simp[e1,e2,e3,e4])
  ·simp[hc0];exact .back (by simp[oL])
set_option maxRecDepth 8000 in
theorem CL(hΓ:jz Γ)(hP:oE Γ)(m:Md)(hb:rj m):aS Tryz.prog Γ me [eb m] (.aH [cN (fH m).1,.int .i64 (fH m).2]):=by
 have hN:=G4 (Γ:=Γ) m hb;refine .run 60 YF (by simp) ?_;unfold fH
 by_cases h0:jc m=0
 ·have hn:lR m=(bI m,0):=by unfold lR;rw[if_pos h0]
  rw[hn]at hN;rw[if_pos h0];simp;refine .call 60 (by simp) hN ?_;simp;obtain⟨ok,hs2,hCB,_⟩:=P1 h0;obtain⟨o,_,_⟩:=qe hs2;have h1:=ok.lI;have h2:=ok.lL;have h3:=ok.lO;have h4:=o.sum;have h5:=o.ju;have hB:=aer (Γ:=Γ) (bI m) (by omega) (by omega) (by omega);have hu:=v_ (v_ (v_ (.inl rfl:(none:Option Nat)=none\/(none:Option Nat)=some 0) (bI m).an) (bI m).ah) (bI m).aw;have key:=afB hΓ hP (bI m) ok hs2 hCB _ hu;generalize dL (dL (dL none (bI m).an) (bI m).ah) (bI m).aw=gu at hu hB key
  have ef:1+(bI m).g.ins+(bI m).g.next.length=((bI m).g.first:Int):=by unfold Gr.first;omega
  have hbl:=Rm 12 (iL 0 ((bI m).an++(bI m).ah));refine .aW 60 hB ?_;simp(disch:=omega) [ef];refine .inLoop ?_;simp;refine .drop 12 rfl (by simp) (by simp) (by simp[iX,hbl]) ?_
  have e5:(if(er (aJ (bI m))).1=0 then(aJ (bI m),(0:Int))else(oL,8)).1=if(er (aJ (bI m))).1=0 then aJ (bI m)else oL:=by split<;>rfl
  have e6:(if(er (aJ (bI m))).1=0 then(aJ (bI m),(0:Int))else(oL,8)).2=if(er (aJ (bI m))).1=0 then 0 else 8:=by split<;>rfl
  rw[e5,e6];simp at key⊢;exact key
 ·have hn:lR m=(kC,jc m):=by unfold lR;rw[if_neg h0]
  rw[hn]at hN;rw[if_neg h0];simp;refine .call 60 (by simp) hN ?_;simp[h0,kC,fQ];exact .back (by simp[oL])
end Go.Proofs.YtchjijfjidlpjaaGreatDoor
namespace Go.Proofs.YtchjijfjidlpjaaGreatDoor
open Go.AM Go.Proofs Go.ChangeShapes Go.WideShapes Go.ChangeAt Go.RowKit
theorem own:ownKnob Tryz.prog.godebug=none:=by kernel_rfl
theorem laid:laidOutB Tryz.prog=true:=by kernel_rfl
theorem aix:mapsRowed Tryz.prog=true:=by kernel_rfl
def IZ:List (Lit×DataW Unit):=match(Rows.laid_patchbay_net_ins:DataW Unit)with
 |.map D=>D
 |_=>[]
theorem agu:(Rows.laid_patchbay_net_ins:DataW Unit)=.map IZ:=by kernel_rfl
def Ak:List (AV×AV):=[(.int .i64 0,p2 0 0),(.int .i64 1,p2 0 0),(.int .i64 2,p2 1 1),(.int .i64 3,p2 1 1),(.int .i64 4,p2 2 8),(.int .i64 5,p2 2 8),(.int .i64 6,p2 2 8),(.int .i64 7,p2 2 8),(.int .i64 8,p2 2 8),(.int .i64 9,p2 2 8),(.int .i64 10,p2 0 8)]
theorem agG:(IZ.map fun d=>(jQ d.1,py d.2))=Ak:=by kernel_rfl
theorem aiE:Tryz.prog.globalNamed "patchbay/net.ins" =some 1:=by kernel_rfl
theorem aiV:(Tryz.prog.globals[1]?).map (·.type)=some 219:=by kernel_rfl
theorem aje:Tryz.prog.underlying 219=some (.map 63 62):=by kernel_rfl
theorem U9:Tryz.prog.underlying 63=some (.int .i64):=by kernel_rfl
theorem u74:Tryz.prog.underlying 62=some (.array 2 3):=by kernel_rfl
theorem u3:Tryz.prog.underlying 3=some (.int .i64):=by kernel_rfl
theorem u4:Tryz.prog.underlying 4=some .bool:=by kernel_rfl
theorem ai2:(Tryz.prog.globals[4]?).map (·.type)=some 284:=by kernel_rfl
theorem ajl:Tryz.prog.underlying 284=some (.array 20 272):=by kernel_rfl
theorem ai1:Tryz.prog.underlying 272=some (.int .u64):=by kernel_rfl
theorem afC:(Rows.laid_internal_strconv_uint64pow10:DataW Unit)=Lib.tabData .u64 Lib.pow10Tab:=by kernel_rfl
abbrev ahu:Nat:=2
theorem QC(g:G)(h:List Ob):∀zs:List Int,VL g h (zs.map fun z=>AV.int .u64 z) (zs.map fun z=>Value.int .u64 z)
 |[]=>by simp[VL]
 |z::zs=>by
  simp only[bU,VL];exact⟨_,_,rfl,by simp[V],QC g h zs⟩
theorem Ps(n:Nat):∀zs:List Int,aK n (zs.map fun z=>AV.int .u64 z)=true
 |[]=>rfl
 |z::zs=>by simp[Ps n zs]
theorem af5{zs ws:List Int}(h:(AV.agg (zs.map fun z=>AV.int .u64 z))=.agg (ws.map fun z=>AV.int .u64 z)):zs=ws:=by
 simp only[AV.agg.injEq]at h;exact(List.map_inj_right (fun x y e=>by simpa using e)).1 h
theorem adT{W:World}{l:List (String×DataW Unit)}(h:laidMetH Tryz.prog l W)(hn:(l.all fun x=>x.2.handleName?.isNone)=true)(hm:("internal/strconv.uint64pow10",(Lib.tabData .u64 Lib.pow10Tab:DataW Unit))∈l):
 ∃t q,W.heap[4]? =some (Obj.cells (Lib.pow10Tab.map fun z=>Value.int .u64 z).toArray t q):=by
 rw[MakeChecks.laidMetH_plain _ _ _ hn]at h;obtain⟨ps,hL,_⟩:=h;obtain⟨g,t,cs,fuel,p,h1,h2,h3,h4⟩:=Hp hL _ _ hm;obtain rfl:=Option.some.inj (H4.symm.trans h1);obtain rfl:=Option.some.inj (ai2.symm.trans h2);have e:=Lib.cells_of_tab ajl ai1 (by kernel_rfl) (by kernel_rfl) h4;unfold World.var? at h3;rw[H4]at h3;simp only[kH]at h3
 split at h3
 ·rename_i cs' t' q' hh
  cases h3
  refine⟨t',q',?_⟩;rw[hh,<-e]
 ·cases h3
noncomputable def Iw(os:Os):World:=
 {World.doorLaid Tryz.prog 4000 os with heap:=((World.doorLaid Tryz.prog 4000 os).heap.toList.zipIdx.map fun x=>if x.2=ahu then(match x.1 with
  |.cells _ t q=>.cells (Go.Pinned.utf8FirstZ.map fun n:Nat=>Value.int .u8 (n:Int)).toArray t q
  |o=>o)else x.1).toArray}
abbrev AH:Sh:=.int .i64
abbrev DP:Sh:=.list 1 false .str
theorem aiQ{B:Nat}{cs:List AV}(h:fO B AH cs):∃n:Int,cs=[.int .i64 n]:=by
 simp only[fO]at h;obtain⟨n,rfl,h1,h2⟩:=h;exact⟨n,rfl⟩
theorem HK{B:Nat}{cs:List AV}(h:fO B DP cs):∃l:List (List UInt8),cs=[.list false 1 (l.map .str)]/\l.length<=B/\∀s∈l,s.length<=B:=by
 simp only[fO]at h;obtain⟨xs,rfl,h0,h1⟩:=h
 obtain⟨l,hl,hn⟩:=CW (f:=nM false) (e:=fun s:{s:List UInt8//s.length<=B}=>AV.str s.val) (fun x hx=>by
  obtain⟨⟨n,rfl,hb⟩,_⟩:=h1 x hx
  exact⟨⟨n,hb⟩,rfl⟩)
 refine⟨l.map (·.val),by rw[hl,iB];rfl,by rw[fC];omega,fun s hs=>?_⟩;obtain⟨x,_,rfl⟩:=cd.1 hs;exact x.property
abbrev DK:Sh:=.list 1 false AH
abbrev SE:Sh:=.list 2 true (.parts [AH,AH])
abbrev aji:Sh:=.parts [AH,DK,DK,SE,DK]
abbrev Su:Sh:=.parts [aji,DP,DP,DP]
theorem Hb{B:Nat}{cs:List AV}(h:fO B DK cs):∃l:List Int,cs=[.list false 1 (l.map i64)]/\l.length<=B:=by
 simp only[fO]at h;obtain⟨xs,rfl,h0,h1⟩:=h
 obtain⟨l,hl,hn⟩:=CW (f:=nM false) (e:=i64) (fun x hx=>by
  obtain⟨⟨n,rfl,_⟩,_⟩:=h1 x hx
  exact⟨n,rfl⟩)
 exact⟨l,by rw[hl],by omega⟩
theorem abE{B:Nat}{cs:List AV}(h:fO B SE cs):∃l:List (Int×Int),cs=[.list false 2 (l.map c8)]/\l.length<=B:=by
 rw[fO]at h;obtain⟨xs,rfl,h0,h1⟩:=h
 obtain⟨l,hl,hn⟩:=CW (f:=nM true) (e:=c8) (fun x hx=>by
  have h2:=(h1 x hx).1;simp only[fO,sg]at h2;obtain⟨_,_,rfl,⟨n,rfl,_⟩,_,_,rfl,⟨m,rfl,_⟩,rfl⟩:=h2
  exact⟨⟨n,m⟩,rfl⟩)
 exact⟨l,by rw[hl],by omega⟩
theorem ahx{B:Nat}{cs:List AV}(h:fO B Su cs):∃m:Md,AV.agg cs=eb m/\(B<2^30->rj m):=by
 rw[fO]at h;simp only[sg]at h;obtain⟨_,_,rfl,hg,_,_,rfl,h1,_,_,rfl,h2,_,_,rfl,h3,rfl⟩:=h;rw[fO]at hg;simp only[sg]at hg;obtain⟨_,_,rfl,g1,_,_,rfl,g2,_,_,rfl,g3,_,_,rfl,g4,_,_,rfl,g5,rfl⟩:=hg;obtain⟨n,rfl⟩:=aiQ g1;obtain⟨a,rfl,la⟩:=Hb g2;obtain⟨b,rfl,lb⟩:=Hb g3;obtain⟨c,rfl,lc⟩:=abE g4;obtain⟨d,rfl,ld⟩:=Hb g5;obtain⟨i,rfl,li,_⟩:=HK h1;obtain⟨l,rfl,ll,_⟩:=HK h2;obtain⟨o,rfl,lo,_⟩:=HK h3;exact⟨⟨⟨n,a,b,c,d,1,1,2,1,.self,.self,.self,.self⟩,i,l,o,1,1,1,.self,.self,.self⟩,rfl,fun hB=>⟨⟨by simp only;omega,by simp only;omega,by simp only;omega,by simp only;omega⟩,by simp only;omega,by simp only;omega,by simp only;omega⟩⟩
theorem aeh{H:Type}(d:DataW H):1<=Rows.uptoBulk d:=by
 cases d with
 |lit l=>cases l<;>simp[Rows.uptoBulk]
 |_=>simp[Rows.uptoBulk]
theorem PW{H:Type}:∀ds:List (DataW H),ds.length<=Rows.uptoBulkAll ds
 |[]=>by simp
 |d::ds=>by have:=PW ds;have:=aeh d;simp only[bE,Rows.uptoBulkAll];omega
theorem Cq{H:Type}:∀{ds:List (DataW H)}{d:DataW H},d∈ds->Rows.uptoBulk d<=Rows.uptoBulkAll ds
 |e::ds,d,h=>by
  simp only[Rows.uptoBulkAll]
  rcases bz.1 h with rfl|h
  ·omega
  ·have:=Cq h;omega
def Small{H:Type}(d:DataW H):Prop:=Rows.uptoBulk d<=1048576
theorem aiM{H:Type}:Down (H:=H) 1048576 Small:=by
 refine⟨fun e r h _=>?_,fun ps h d hd=>?_,fun b h _=>?_⟩
 ·simp only[Small,Rows.uptoBulk]at h;refine⟨by have:=PW e;omega,fun d hd=>?_⟩;have:=Cq hd
  simp only[Small];omega
 ·simp only[Small,Rows.uptoBulk]at h⊢;have:=Cq hd;omega
 ·simp only[Small,Rows.uptoBulk]at h;omega
theorem adN{H:Type}{ds gs:List (DataW H)}(hk:Rows.uptoSmall H (ds++gs)=true):∀d∈ds,Small d:=by
 intro d hd;have h:=A4 hk;have:=Cq (mW gs hd)
 simp only[Small];omega
def DA:List (Lit×DataW Unit):=match(Rows.laid_patchbay_lower_ops:DataW Unit)with
 |.iface _ (.map D)=>D
 |_=>[]
theorem agj:(Rows.laid_patchbay_lower_ops:DataW Unit)=.iface "func table" (.map DA):=by kernel_rfl
def wz:List (List UInt8×FuncId):=[([40,42,112,97,116,99,104,98,97,121,47,108,111,119,101,114,46,98,117,105,108,100,101,114,41,46,110,111,110,101],xH),
 ([40,42,112,97,116,99,104,98,97,121,47,108,111,119,101,114,46,98,117,105,108,100,101,114,41,46,97,108,108],uP),
 ([40,42,112,97,116,99,104,98,97,121,47,108,111,119,101,114,46,98,117,105,108,100,101,114,41,46,111,110,101],uO),
 ([40,42,112,97,116,99,104,98,97,121,47,108,111,119,101,114,46,98,117,105,108,100,101,114,41,46,111,100,100],uQ)]
def Ao(t:List UInt8):FuncId:=((wz.find? fun p=>p.1==t).map (·.2)).getD 0
def Dy:List (AV×AV):=(List.range 10).map fun(n:Nat)=>(.int .i64 (n:Int),J9 (qY (n:Int)) ((n%2:Nat):Int))
theorem agI:((DataW.funcsOutEntries DA).map fun d=>(jQ d.1,pn Ao d.2))=Dy:=by kernel_rfl
theorem ah7:Tryz.prog.globalNamed "patchbay/lower.ops" =some 0:=by kernel_rfl
theorem ajj:(Tryz.prog.globals[0]?).map (·.type)=some 172:=by kernel_rfl
theorem aiX:Tryz.prog.underlying 172=some (.map 63 170):=by kernel_rfl
def RT:DataW (List UInt8)->Bool
 |.agg [.held t,.lit (.int .i64 _)]=>wz.any fun p=>p.1==t
 |_=>false
theorem acN:((DataW.funcsOutEntries DA).all fun d=>RT d.2)=true:=by kernel_rfl
theorem aed:((List.range Tryz.prog.funcs.size).all fun f=>match Tryz.prog.funcs[f]? with
 |some fn=>!(wz.any fun p=>p.1==fn.name.toUTF8.data.toList)||Ao fn.name.toUTF8.data.toList==f
 |none=>true)=true:=by kernel_rfl
theorem aie:∃fs,Tryz.prog.underlying 170=some (.struct fs)/\fs.toList.map (fun f=>(f.type,f.offset))=[(168,0),(3,1)]:=⟨_,Tryz.underlying170,by kernel_rfl⟩
theorem agh{t:List UInt8}(h:(wz.any fun p=>p.1==t)=true)(f:FuncId)(fn:Func)(hf:Tryz.prog.funcs[f]? =some fn)(hn:fn.name.toUTF8.data.toList=t):Ao t=f:=by
 have hs:f<Tryz.prog.funcs.size:=by
  refine xk fun hc=>?_
  rw[oS (Nat.le_of_not_lt hc)]at hf
  cases hf
 have h1:=dU.1 aed f (dJ.2 hs);generalize Tryz.prog.funcs[f]? =o at hf h1;subst hf;have h2:(!(wz.any fun p=>p.1==fn.name.toUTF8.data.toList)||Ao fn.name.toUTF8.data.toList==f)=true:=h1;rw[hn,h]at h2;simpa using h2
theorem abU{W:World}(h:laidMetH Tryz.prog Rows.raiseBackRow.laid W):∃Γ:Nat->Option AV,(jz Γ/\An Γ/\oE Γ)/\(∀n a,Γ n=some a->aK 0 a.cells=true/\∃vs,VL (gw W) [] a.cells vs/\∀j(hj:j<vs.length),W.cell? ⟨n,j,none⟩=some vs[j])/\
 ∀N:Env,N.K=(fun b=>W.heap[b]?)->Jb Γ N:=by
 obtain⟨ks,us,h1,h2,z,hz,hm⟩:=ad0 (Nb h) (by kernel_rfl) (name:= "patchbay/net.ins") (D:=IZ) (by
  rw[<-agu]
  refine dN.2 ⟨dw _ (dw _ (dw _ (dw _ (oY ..)))),by kernel_rfl⟩) aiE aiV aje
  (fun v q hq=>by obtain⟨a,b,_⟩:=Q6 U9 (g:=gw W) (h:=[]) hq;exact⟨a,b⟩) (fun n v x hf ht=>adY u74 u3 (by kernel_rfl) (by kernel_rfl) hf ht)
 obtain⟨tt,tq,hpow⟩:=adT (Nb h) (by kernel_rfl) (by
  rw[<-afC]
  refine dN.2 ⟨dw _ (dw _ (oY ..)),by kernel_rfl⟩)
 obtain⟨fs,hfs,hfs2⟩:=aie
 obtain⟨ks2,us2,h12,h22,z2,hz2,hm2⟩:=acy h (name:= "patchbay/lower.ops") (en:=DA) (by
  rw[<-agj]
  exact dw _ (dw _ (dw _ (dw _ (dw _ (oY ..)))))) Ao ah7 ajj aiX
  (fun v q hq=>by obtain⟨a,b,_⟩:=Q6 U9 (g:=gw W) (h:=[]) hq;exact⟨a,b⟩) (fun n v x hx hf ht=>by
   obtain⟨d,hd,he⟩:=hx;have h4:=dU.1 acN d hd;rw[he]at h4
   obtain⟨t0,k0,hxe,hk0⟩:∃t0 k0,x.1=.agg [.held t0,.lit (.int .i64 k0)]/\(wz.any fun p=>p.1==t0)=true:=by
    unfold RT at h4
    split at h4
    ·rename_i t0 k0 hxe;exact⟨t0,k0,hxe,h4⟩
    ·cases h4
   refine adO hfs hfs2 (by kernel_rfl) u3 (by kernel_rfl) (by kernel_rfl) (by kernel_rfl) hxe ?_ (agh hk0) hf ht
   rintro rfl
   exact absurd hk0 (by decide))
 have hcase:∀n m:Int,(cj (.sc .int) (.int .i64 n) (.int .i64 m)=some true/\AV.int .i64 n=.int .i64 m)\/(cj (.sc .int) (.int .i64 n) (.int .i64 m)=some false/\AV.int .i64 n≠.int .i64 m):=by
  intro n m
  by_cases hnm:n=m
  ·exact .inl ⟨by simp[cj,eV,hnm],by rw[hnm]⟩
  ·exact .inr ⟨by simp[cj,eV,hnm],by simp[hnm]⟩
 refine⟨fun n=>if n=1 then some (.du ks us)else if n=0 then some (.du ks2 us2)else if n=4 then some (.agg (Lib.pow10Tab.map fun z=>AV.int .u64 z))else none,⟨⟨ks,us,rfl,fun n=>?_⟩,⟨ks2,us2,rfl,fun n=>?_⟩,rfl⟩,fun n a hn=>?_,fun N hN n zs hzs hn=>?_⟩
 ·rw[hz];rw[agG]at hm
  obtain⟨r,e1,e2,e3⟩:=F3 (.sc .int) (.int .i64 n) z (by
   intro y hy;have hy2:=(hm y).1 hy;simp only[Ak,bz,o5,oT]at hy2
   rcases hy2 with rfl|rfl|rfl|rfl|rfl|rfl|rfl|rfl|rfl|rfl|rfl<;>exact hcase _ _)
  rw[e1];unfold IV
  cases r with
  |some v=>
   have hv:=(hm _).1 (e3 v rfl);simp only[Ak,bz,o5,oT,bY,AV.int.injEq,w_]at hv
   rcases hv with⟨rfl,rfl⟩|⟨rfl,rfl⟩|⟨rfl,rfl⟩|⟨rfl,rfl⟩|⟨rfl,rfl⟩|⟨rfl,rfl⟩|⟨rfl,rfl⟩|⟨rfl,rfl⟩|⟨rfl,rfl⟩|⟨rfl,rfl⟩|⟨rfl,rfl⟩<;>rfl
  |none=>
   have hno:∀y∈Ak,¬(AV.int .i64 n=y.1):=fun y hy=>e2 rfl y ((hm y).2 hy)
   simp only[Ak,bz,o5,oT,LA,forall_eq,AV.int.injEq,w_]at hno;rw[if_neg (by omega),if_neg (by omega),if_neg (by omega),if_neg (by omega)]
 ·rw[hz2];rw[agI]at hm2
  obtain⟨r,e1,e2,e3⟩:=F3 (.sc .int) (.int .i64 n) z2 (by
   intro y hy;have hy2:=(hm2 y).1 hy;simp only[Dy,cd]at hy2;obtain⟨k,_,rfl⟩:=hy2
   exact hcase _ _)
  rw[e1];unfold DS
  cases r with
  |some v=>
   have hv:=(hm2 _).1 (e3 v rfl);simp only[Dy,cd,dJ,bY,AV.int.injEq,w_]at hv;obtain⟨k,hk,rfl,rfl⟩:=hv;rw[if_pos (by omega)];simp
  |none=>
   have hno:∀y∈Dy,¬(AV.int .i64 n=y.1):=fun y hy=>e2 rfl y ((hm2 y).2 hy)
   rw[if_neg]
   rintro⟨h0,h9⟩
   obtain⟨k,rfl⟩:=gB h0;exact hno (.int .i64 k,J9 (qY k) ((k%2:Nat):Int)) (cd.2 ⟨k,dJ.2 (by omega),rfl⟩) rfl
 ·simp only at hn
  split at hn
  ·rename_i h0
   cases hn
   subst h0;exact⟨h1,h2⟩
  ·split at hn
   ·rename_i h0
    cases hn
    subst h0;exact⟨h12,h22⟩
   ·split at hn
    ·rename_i h0
     cases hn
     subst h0;refine⟨Ps 0 _,_,QC _ _ _,fun j hj=>?_⟩
     have hj2:j<Lib.pow10Tab.length:=by simpa using hj
     have hc:W.cell? ⟨4,j,none⟩=((Lib.pow10Tab.map fun z=>Value.int .u64 z).toArray)[j]? :=by simp[World.cell?,hpow]
     rw[hc];simp[hj2]
    ·cases hn
 ·simp only at hn
  split at hn
  ·cases hn
  ·split at hn
   ·cases hn
   ·split at hn
    ·rename_i h0;simp only[ak]at hn;obtain rfl:=af5 hn;subst h0;rw[hN];exact⟨tt,tq,hpow⟩
    ·cases hn
theorem abN(os:Os)(args:Array Value):laidMetH Tryz.prog Rows.raiseBackRow.laid ((Iw os).forCall (fun _ _=>0) ⟨#[],args,[]⟩).memory:=
 laidMetH_of_parts3 (fuel:=8) (laidMet_of_run' 8 (by kernel_rfl) (by kernel_rfl)) (by kernel_rfl) (by kernel_rfl)
end Go.Proofs.YtchjijfjidlpjaaGreatDoor
namespace Go.Proofs.YtchjijfjidlpjaaGreatDoor
open Go.AM Go.Proofs
variable{Γ:Nat->Option AV}
def AF:Gr:=⟨2,[],[],[(5,2)],[6,2],0,0,2,1,.nil,.nil,.self,.self⟩
def sD:Gr:=⟨2,[],[],[(5,2)],[6,2],1,1,2,1,.self,.self,.self,.self⟩
def ri:Md:=⟨AF,[[97],[98]],[],[[122],[97]],1,0,1,.self,.nil,.self⟩
def Av:Md:=⟨AF,[[97],[98]],[],[],1,0,0,.self,.nil,.nil⟩
def fP:Md:=⟨sD,[[97],[98]],[],[[122],[97]],1,0,1,.self,.nil,.self⟩
def AR:Ct:=⟨[[97],[98]],[[122],[97]],[],[eL [110,49] 3 [[98]],eL [110,50] 4 [[110,49],[97]],eL [122] 2 [[110,50]]],1,1,3,5,.self,.self,.self,.self⟩
theorem Qf:AF.iA:=by unfold Gr.iA AF;decide
theorem Sg:rj ri:=⟨Qf,by decide,by decide,by decide⟩
theorem aiq:rj Av:=⟨Qf,by decide,by decide,by decide⟩
theorem Sf:bI ri=fP:=by kernel_rfl
def aja(i o:List Bs)(l:List Lt)(g:List Gt):Ct:=⟨i,o,l,g,1,1,3,5,.self,.self,.self,.self⟩
theorem aiK:aJ fP=AR:=by
 have d1:Lib.decDigits 1=[49]:=GX (by omega);have d2:Lib.decDigits 2=[50]:=GX (by omega)
 have f1:fI [[97],[98],[122],[97]] fh=[110,49]:=by simp[fI,oK,d1]
 have f2:fI [[97],[98],[122],[97],[110,49]] fh=[110,50]:=by simp[fI,oK,d1,d2]
 have hA:oH fP=⟨[eL [110,49] 3 [[98]],eL [110,50] 4 [[110,49],[97]]],[[97],[98],[122],[97],[110,49],[110,50]],[(2,[97]),(4,[98]),(5,[110,49]),(6,[110,50])]⟩:=by
  simp[oH,fP,sD,ny,iX,iL,Ra.df,Ra.make,getM,fA,By.gate,dt,f1,f2,Gr.first]
 have hL:dy fP=(oH fP,[]):=by
  unfold dy;simp[fP,sD,iI]
 have hO:ij fP (oH fP).bn fP.aw fP.g.outs=[eL [122] 2 [[110,50]]]:=by
  rw[hA]
  have p1:dn fP [122]=-1:=by kernel_rfl
  have p2:dn fP [97]=1:=by kernel_rfl
  simp only[fP,sD]at p1 p2⊢;simp[ij,p1,p2,mN,dt,getM]
 show aja fP.an fP.aw (dy fP).2 ((dy fP).1.af++ij fP (dy fP).1.bn fP.aw fP.g.outs)=AR
 rw[hL];simp only[hO];rw[hA];rfl
theorem af0:fH ri=(AR,0):=by
 have h:jc ri=0:=by kernel_rfl
 unfold fH;rw[if_pos h,Sf,aiK,show(er AR).1=0 by kernel_rfl];rfl
theorem adK:fH Av=(oL,1):=by
 have h:jc Av=1:=by kernel_rfl
 unfold fH;rw[if_neg (by rw[h];decide),h]
theorem ahF:lR ri=(fP,0):=by
 have h:jc ri=0:=by kernel_rfl
 unfold lR;rw[if_pos h,Sf]
set_option maxRecDepth 8000 in
theorem adr(hΓ:jz Γ)(hP:oE Γ):aS Tryz.prog Γ BD [] (.bool true):=by
 have h1:=CL hΓ hP ri Sg;have h2:=G4 (Γ:=Γ) ri Sg;have h3:=CL hΓ hP Av aiq;have h4:=aan (Γ:=Γ) [[110,49],[97]] [[110,49],[97]] (ka:=1) (kb:=1) .self .self (by simp);have h5:=aeS (Γ:=Γ) sD (by unfold Gr.iA sD;decide);rw[af0]at h1;rw[ahF]at h2;rw[adK]at h3;rw[show Is sD=2 by kernel_rfl]at h5;unfold AR eL at h1;unfold fP at h2;unfold oL at h3;unfold ri at h1 h2;unfold Av at h3;unfold AF sD at*;simp at h1 h2 h3 h4 h5;refine .run 120 ZR (by simp) ?_;simp;refine .call 120 (by simp) h1 ?_;simp;refine .call 120 (by simp) h2 ?_;simp;refine .call 120 (by simp) h3 ?_;simp;refine .call 120 (by simp) h4 ?_;simp;refine .call 120 (by simp) h5 ?_;simp;exact .back (by simp)
def IW(m:Md):Bool:=m.g.DW&&(r8 40 m.an&&(r8 40 m.ah&&r8 60 m.aw))
theorem agx(m:Md):aS Tryz.prog Γ BU [eb m] (.bool (IW m)):=by
 have h1:=ac1 (Γ:=Γ) m.g;have h2:=FL (Γ:=Γ) m.an 40 (by omega) m.hI;have h3:=FL (Γ:=Γ) m.ah 40 (by omega) m.hL;have h4:=FL (Γ:=Γ) m.aw 60 (by omega) m.hO;unfold IW;simp at h1 h2 h3 h4;refine .run 90 acB (by simp) ?_;simp;refine .call 90 (by simp) h1 ?_;simp;refine .call 90 (by simp) h2 ?_;simp;refine .call 90 (by simp) h3 ?_;simp;refine .call 90 (by simp) h4 ?_
 cases m.g.DW<;>cases r8 40 m.an<;>cases r8 40 m.ah<;>cases r8 60 m.aw<;>simp<;>exact .back (by simp)
theorem aaS(c:Ct):Ds c c=true:=by
 have:∀l:List Gt,mG l l=true:=fun l=>MQ l
 simp[Ds,this]
theorem ab2{m:Md}(h0:¬(fH m).2=0):(fH m).2=(lR m).2\/(fH m).2=8:=by
 unfold fH lR at*
 split at h0
 ·rename_i h1;rw[if_pos h1]
  split at h0
  ·exact absurd rfl h0
  ·rename_i h2;rw[if_neg h2];exact .inr rfl
 ·rename_i h1;rw[if_neg h1,if_neg h1];exact .inl rfl
set_option maxRecDepth 8000 in
theorem ZC(hΓ:jz Γ)(hΩ:An Γ)(hP:oE Γ)(m:Md)(hb:rj m):
 aS Tryz.prog Γ Fu [eb m] (.bool true):=by
 have hF:=agx (Γ:=Γ) m;have hR:=CL hΓ hP m hb;have hN:=G4 (Γ:=Γ) m hb;refine .run 150 X3 (by simp) ?_;simp;refine .call 150 (by simp) (adr hΓ hP) ?_;simp;refine .call 150 (by simp) hF ?_;simp;refine .call 150 (by simp) hR ?_;simp;refine .call 150 (by simp) hN ?_
 cases hp:IW m with
 |false=>
  simp;exact .back (by simp)
 |true=>
  by_cases h0:(fH m).2=0
  ·obtain⟨hc0,hok,hst,hc,hCB,okc,ho⟩:=GG h0;obtain⟨y,v,_,e2,_,e4⟩:=Nu h0;have e5:=aa3 h0;have hcf:=rP hCB (zk okc);have hXB:=Md.ajk hCB;have hL:=ae6 hΓ hΩ _ hCB;rw[e2]at hL e5 hXB;have hS:=afh (Γ:=Γ) _ (bI m) hXB;rw[e4]at hS;have hR2:=CL hΓ hP _ hXB;rw[e5]at hR2;have hC:=ahR (Γ:=Γ) (aJ (bI m)) (aJ (bI m)) hcf;rw[aaS]at hC
   have hNm:lR m=(bI m,0):=by rw[lR,if_pos hc0]
   rw[hNm];clear e2 e4 e5 hR hN hXB;rw[<-hc]at*;generalize fH m=R at*;generalize ep _ y v=X at*;simp[h0];refine .call 150 (by simp) hL ?_;simp;refine .call 150 (by simp) hR2 ?_;simp;refine .call 150 (by simp) hS ?_;simp;refine .call 150 (by simp) hC ?_;simp;exact .back (by simp)
  ·have h1:=ab2 h0;generalize fH m=R at*;generalize lR m=N at*
   by_cases h2:R.2=N.2
   ·have h3:¬N.2=0:=by rw[<-h2];exact h0
    simp[h2,h3];exact .back (by simp)
   ·have h3:R.2=8:=h1.resolve_left h2;rw[h3]at h2;simp[h3,h2];exact .back (by simp)
end Go.Proofs.YtchjijfjidlpjaaGreatDoor
