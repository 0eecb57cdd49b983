/- Raise: what each gate of the netlist is (plain). -/
import Derived.Test.YtchjijfjidlpjaaGreatDoorK
import Derived.Test.YtchjijfjidlpjaaGreatDoorJ
import Derived.Test.YtchjijfjidlpjaaGreatDoorF
import Derived.Test.YtchjijfjidlpjaaGreatDoorI
import Derived.Test.YtchjijfjidlpjaaGreatDoorAMd
import Derived.Test.YtchjijfjidlpjaaGreatDoorCards
import Derived.Test.YtchjijfjidlpjaaGreatDoorTie
import Derived.ProofKit
import Derived.Deep.DeepHandedRow
import Derived.LaidMore
import Derived.JoinedCond
import Derived.Test.YtchjijfjidlpjaaGreatDoorG
set_option linter.unusedSimpArgs false
set_option linter.unusedVariables false
namespace Go.Proofs.YtchjijfjidlpjaaGreatDoor
open Go.AM Go.Proofs
inductive GD(N:List Bs)(V:List Nat)(first:Nat)(ands:List (Int×Int))(pos:Nat):Nat->Gt->Nat->Nat->Prop
 |const (t:Nat) (s:Bs) (b:Bool):GD N V first ands pos t (nK s (if b then 1 else 0)) (if b then 1 else 0) t
 |buf (t:Nat) (s:Bs) (k:Nat) (r:Bs) (a:Nat):k<pos->N[k]? =some r->V[k]? =some a->GD N V first ands pos t (dP s 2 [r]) a t
 |not (t:Nat) (s:Bs) (k:Nat) (r:Bs) (a:Nat):k<pos->N[k]? =some r->V[k]? =some a->GD N V first ands pos t (dP s 3 [r]) (a^^^1) t
 |and (t:Nat) (s:Bs) (k1 k2:Nat) (r1 r2:Bs) (p q:Nat):k1<pos->k2<pos->N[k1]? =some r1->N[k2]? =some r2->V[k1]? =some p->V[k2]? =some q->ands[t]? =some ((p:Int),(q:Int))->GD N V first ands pos t (dP s 4 [r1,r2]) (2*(first+t)) (t+1)
theorem Zt(u:List Bs)(n:Nat):∀k:Nat,∃e,cX u (n+k)=cX u n++e:=by
 intro k
 induction k with
 |zero=>exact⟨[],by simp⟩
 |succ k ih=>
  obtain⟨e,he⟩:=ih;exact⟨e++[dt (u++cX u (n+k)) dD],by rw[<-mj,cX,he,c8]⟩
theorem MT{m:Md}{L:List (Nat×By)}{i:Nat}(hi:i<=L.length)(hd:(bD m L).Nodup)(E:List Bs)(F:List Nat){a:Nat}(ha:a∈bD m (L.take i)):
 ∃k,k<(m.ak++m.ai).length+i/\(eV m L.length++E)[k]? =some (cC (cu m (L.take i)).ar a)/\(bD m L++F)[k]? =some a:=by
 obtain⟨k,hk,rfl⟩:=jK ha
 have hsp:bD m L=bD m (L.take i)++(L.drop i).map (·.1):=by rw[<-tF,oa]
 have hd1:(bD m (L.take i)).Nodup:=by
  rw[hsp,om]at hd;exact hd.1
 have hlt:(L.take i).length=i:=by simp;omega
 have hkl:(bD m (L.take i)).length=(m.ak++m.ai).length+i:=by simp only[bD,iO,bp,iB,qQ,hlt]
 refine⟨k,by omega,?_,?_⟩
 ·rw[abx hd1 hk];obtain⟨e,he⟩:=Zt (gA m) i (L.length-i);rw[show i+(L.length-i)=L.length by omega]at he
  have hn:eV m L.length=eV m (L.take i).length++e:=by rw[hlt,eV,he,eV,<-c8]
  have hk2:k<(eV m (L.take i).length).length:=by rw[<-lz];exact hk
  rw[hn,c8,dk hk2,a_ hk2]
 ·rw[hsp,c8,dk hk,a_ hk]
theorem EH{a:Nat}(h:a%2=1):a^^^1=a-1:=by rw[ky,if_neg (by omega)]
theorem XH{a:Nat}(h:a%2=1):(a-1)^^^1=a:=by rw[ky,if_pos (by omega)];omega
theorem Ml{m:Md}{first:Nat}{ands:List (Int×Int)}{N:List Bs}{V:List Nat}{ar:List (Nat×Bs)}{pos:Nat}(s:Bs)(t:Nat){a:Nat}(h:a<2\/(a%2=1/\∃k,k<pos/\N[k]? =some (cC ar (a-1))/\V[k]? =some (a-1))):
 GD N V first ands pos t ((dY a).gate ar s) a t:=by
 unfold dY
 by_cases h2:a<2
 ·rw[if_pos h2];have:=GD.const (N:=N) (V:=V) (first:=first) (ands:=ands) (pos:=pos) t s (decide (a=1))
  have e:(if decide (a=1)=true then 1 else 0)=a:=by
   by_cases h1:a=1
   ·simp[h1]
   ·simp[h1];omega
  rw[e]at this;exact this
 ·rw[if_neg h2];obtain⟨h3,k,k1,k2,k3⟩:=h.resolve_left h2;have:=GD.not (first:=first) (ands:=ands) t s k _ _ k1 k2 k3;rw[XH h3]at this;simp only[By.gate,EH h3];exact this
def eg(n:Md):List (Bs×Int):=(n.aq.zip n.g.outs).filter fun p=>decide (cA n p.1<0)
theorem D6(d:Md)(m:List (Nat×Bs)):∀(l:List Bs)(r:List Int),ep d m l r=((l.zip r).filter fun p=>decide (cA d p.1<0)).map fun p=>iV m p.1 p.2.toNat
 |[],r=>by simp[ep]
 |s::l,[]=>by simp[ep]
 |s::l,a::r=>by
  rw[ep,B_,u6]
  by_cases h:cA d s<0
  ·simp[h,D6 d m l r]
  ·simp[h,D6 d m l r]
theorem abH{n:Md}(ok:gG n)(hs:n.g.strict=true):∃L,Tr n n.g.first n.g.ands L n.g.ands.length/\(cR n).1=cu n L/\(∀a∈n.g.next,a.toNat∈bD n L)/\(cR n).2.map (·.name)=n.ai/\(cR n).2.map (·.init)=n.g.init/\(cR n).2.map (·.next)=n.g.next.map (fun a=>cC (cu n L).ar a.toNat)/\∀e∈L,oP e=false->(∃p∈n.g.ands,e.1=p.1.toNat\/e.1=p.2.toNat)\/∃a∈n.g.next,e.1=a.toNat:=by
 have hf:=ok.first
 obtain⟨o,_,_⟩:=pX hs;obtain⟨L1,t1,e1,s1⟩:=XY hf o.ands n.g.ands.length 0 (by omega) [] .nil
 have hA:l0 n=cu n L1:=by
  rw[dV,lg]at e1;exact e1
 rw[lg]at t1
 obtain⟨L2,t2,e2,k2,e3,e4,e5,s2⟩:=Lh hf n.ai n.g.next n.g.init ok.lL o.same (fun a ha=>by
  have:=o.next a ha;have e:n.g.lits=2*(n.g.first+n.g.ands.length):=rfl
  omega) L1 t1
 refine⟨L1++L2,t2,?_,k2,?_,?_,?_,fun x hx hb=>?_⟩
 ·unfold cR;rw[hA];exact e2
 ·unfold cR;rw[hA];exact e3
 ·unfold cR;rw[hA];exact e4
 ·unfold cR;rw[hA];exact e5
 ·rcases ba.1 hx with hx|hx
  ·exact .inl (s1 x hx hb)
  ·exact .inr (s2 x hx).2
structure iy(n:Md)(V:List Nat)(ts:Nat->Nat):Prop where
 len:V.length=(bt (aY n)).length
 nd:(bt (aY n)).Nodup
 low:∀k,k<(n.ak++n.ai).length->V[k]? =some (2*(k+1))
 t0:ts 0=0
 tN:ts (aY n).af.length=n.g.ands.length
 gd:∀i(h:i<(aY n).af.length),∃d,V[(n.ak++n.ai).length+i]? =some d/\GD (bt (aY n)) V n.g.first n.g.ands ((n.ak++n.ai).length+i) (ts i) (aY n).af[i] d (ts (i+1))
 next:∀i(h:i<n.g.next.length),∃q,(aY n).ai[i]? =some q/\∃k:Nat,(bt (aY n))[k]? =some q.next/\V[k]? =some (n.g.next[i]).toNat
 outs:∀i(h:i<n.g.outs.length)(h2:i<n.aq.length),∃k:Nat,(bt (aY n))[k]? =some n.aq[i]/\V[k]? =some (n.g.outs[i]).toNat
 abu:(aY n).ai.map (·.name)=n.ai
 abG:(aY n).ai.map (·.init)=n.g.init
 names:∀s∈bt (aY n),s∈n.ak++n.ai++n.aq\/∃j,j<10^7/\s=dD++Lib.decDigits j
 NQ:(aY n).af.length<=2^15
theorem Tt(L:List (Nat×By)){i:Nat}(hi:i<L.length):po (L.take (i+1))=po (L.take i)+if oP L[i]=true then 1 else 0:=by
 rw[pN hi,DY]
theorem Gf{n:Md}(ok:gG n)(hs:n.g.strict=true):∃V ts,iy n V ts:=by
 obtain⟨L,tr,hL,hk,l1,l2,l3,_⟩:=abH ok hs;obtain⟨o,so,_⟩:=pX hs
 have hf:=ok.first
 have F:=tr.facts hf
 obtain⟨hcnt,hat⟩:=tr.at
 have hgl:=Ji n L
 have hG:(aY n).af=(cu n L).af++(eg n).map fun p=>iV (cu n L).ar p.1 p.2.toNat:=by
  show(cR n).1.af++ep n (cR n).1.ar n.aq n.g.outs=_
  rw[hL,D6];rfl
 have hlat:(aY n).ai=(cR n).2:=rfl
 have hoN:∀p:Bs×Int,(iV (cu n L).ar p.1 p.2.toNat).name=p.1:=by
  intro p;unfold iV
  split
  ·rfl
  ·simp
 have hN:bt (aY n)=eV n L.length++(eg n).map (·.1):=by
  unfold bt;rw[hG,hlat,l1,nk,Vy,lf]
  have:((eg n).map ((fun g:Gt=>g.name)∘fun p=>iV (cu n L).ar p.1 p.2.toNat))=(eg n).map (·.1):=pK fun p _=>hoN p
  rw[this];simp[eV,aY,c8]
 have hgN:(aY n).af.length=L.length+(eg n).length:=by rw[hG];simp[hgl]
 have hkl:(bD n L).length=(n.ak++n.ai).length+L.length:=by simp[bD,iO]
 obtain⟨f1,f2⟩:=MX (gA n) L.length
 have hout:∀p∈eg n,p.1∈n.aq/\p.1∉n.ak++n.ai/\p.2∈n.g.outs:=by
  intro p hp;simp only[eg,dh,a8]at hp;obtain⟨h1,h2⟩:=List.of_mem_zip (a:=p.1) (b:=p.2) hp.1;exact⟨h1,Vt.1 hp.2,h2⟩
 have hlits:n.g.lits=2*(n.g.first+n.g.ands.length):=rfl
 have hnet:∀a∈bD n L,∃k,k<(n.ak++n.ai).length+L.length/\(bt (aY n))[k]? =some (cC (cu n L).ar a)/\(bD n L++(eg n).map (·.2.toNat))[k]? =some a:=by
  intro a ha;have:=MT (m:=n) (L:=L) (i:=L.length) (aU _) F.nodup ((eg n).map (·.1)) ((eg n).map (·.2.toNat)) (a:=a) (by rw[HG];exact ha);rw[HG,<-hN]at this;exact this
 refine⟨bD n L++(eg n).map (·.2.toNat),fun i=>po (L.take i),?_⟩
 have hLl:L.length<=2^14:=by
  have h1:=DJ (bD n L) (List.range n.g.lits) F.nodup (fun x hx=>dw.2 (by have:=F.lt x hx;omega));rw[qQ,hkl]at h1;have h2:=wa o;omega
 have hol:(eg n).length<=4000:=by
  have h1:(eg n).length<=(n.aq.zip n.g.outs).length:=List.length_filter_le _ _;have h2:=o.eT;simp only[List.length_zip]at h1;omega
 have hul:(gA n).length<=12000:=by
  have h1:=ok.lI;have h2:=ok.lL;have h3:=ok.lO;have h4:=o.sum;have h5:=o.eT;simp only[gA,bp];omega
 refine⟨?_,?_,fun k hk=>?_,rfl,?_,fun i hi=>?_,fun i hi=>?_,fun i h1 h2=>?_,l1,l2,fun s hs=>?_,by omega⟩
 ·rw[hN,bp,bp,lz];simp
 ·rw[hN,eV,om];refine⟨?_,?_,fun a ha b hb=>?_⟩
  ·rw[om];refine⟨ok.nd,f1,fun a ha b hb=>?_⟩
   rintro rfl
   exact f2 a hb (jJ _ ha)
  ·refine ok.BZ.sublist ?_;refine List.Sublist.trans (List.Sublist.map _ List.filter_sublist) ?_;rw[List.map_fst_zip (by rw[ok.lO];exact aU _)];exact List.Sublist.refl _
  ·obtain⟨p,hp,rfl⟩:=db.1 hb;obtain⟨q1,q2,_⟩:=hout p hp
   rintro rfl
   rcases ba.1 ha with ha|ha
   ·exact q2 ha
   ·exact f2 _ ha (sD _ q1)
 ·rw[dk (by rw[hkl];omega),bD,dk (by simpa[iO]using hk)];simp only[iO,jc,Q5 hk,eb]
 ·rw[hgN,cF (by omega),<-hcnt]
 ·by_cases hiL:i<L.length
  ·have hst:=hat i hiL
   have hsplit:L=L.take i++L[i]::L.drop (i+1):=by rw[<-br hiL,oa]
   have hlt:(L.take i).length=i:=by simp;omega
   have hg:(aY n).af[i]=(L[i]).2.gate (cu n (L.take i)).ar (dt (gA n++cX (gA n) i) dD):=by
    have h1:=ZS n (L.take i) L[i] (L.drop (i+1));rw[<-hsplit,hlt]at h1
    have h2:(aY n).af[i]? =some ((L[i]).2.gate (cu n (L.take i)).ar (dt (gA n++cX (gA n) i) dD)):=by
     rw[hG,dk (by omega)];exact h1
    exact(pJ.1 h2).2
   have hV:(bD n L++(eg n).map (·.2.toNat))[(n.ak++n.ai).length+i]? =some (L[i]).1:=by
    rw[dk (by rw[hkl];omega),bD,e_ (by simp[iO])];simp[iO,jc,a_ hiL]
   refine⟨(L[i]).1,hV,?_⟩;rw[hg,hN];rw[Tt L hiL]
   have hpre:=fun a=>MT (m:=n) (L:=L) (i:=i) (by omega) F.nodup ((eg n).map (·.1)) ((eg n).map (·.2.toNat)) (a:=a)
   rcases hst with⟨a,he,ha⟩|⟨p,q,he,hp,h1,h2⟩
   ·rw[he,DQ];refine Ml (m:=n) _ _ ?_
    rcases ha with ha|⟨ha,hb⟩
    ·exact .inl ha
    ·exact .inr ⟨ha,hpre _ hb⟩
   ·obtain⟨k1,a1,a2,a3⟩:=hpre p h1;obtain⟨k2,b1,b2,b3⟩:=hpre q h2;rw[he];exact .and _ _ k1 k2 _ _ p q a1 b1 a2 b2 a3 b3 hp
  ·obtain⟨r,rfl⟩:∃r,i=L.length+r:=⟨i-L.length,by omega⟩
   have hr:r<(eg n).length:=by omega
   have hg:(aY n).af[L.length+r]=iV (cu n L).ar (eg n)[r].1 (eg n)[r].2.toNat:=by
    have h2:(aY n).af[L.length+r]? =some (iV (cu n L).ar (eg n)[r].1 (eg n)[r].2.toNat):=by
     rw[hG,e_ (by omega),hgl,xx,jc,a_ hr];rfl
    exact(pJ.1 h2).2
   have hV:(bD n L++(eg n).map (·.2.toNat))[(n.ak++n.ai).length+(L.length+r)]? =some (eg n)[r].2.toNat:=by
    rw[e_ (by rw[hkl];omega),hkl,show(n.ak++n.ai).length+(L.length+r)-((n.ak++n.ai).length+L.length)=r by omega,jc,a_ hr];rfl
   refine⟨_,hV,?_⟩;rw[hg,cF (by omega),cF (by omega)];obtain⟨_,_,h3⟩:=hout _ (bZ hr);have hb:=o.outs _ h3;generalize(eg n)[r]=p at*;obtain⟨s,a⟩:=p;obtain⟨a,rfl⟩:=cS hb.1;simp only[cZ]at*
   have hlt:a<2*(n.g.first+n.g.ands.length):=by omega
   unfold iV
   by_cases he:2<=a/\a%2=0
   ·rw[if_pos he]
    obtain⟨k,k1,k2,k3⟩:=hnet a (by
     have:=F.even (a/2) (by omega) (by omega)
     rwa[show 2*(a/2)=a by omega]at this)
    exact .buf _ _ k _ _ (by omega) k2 k3
   ·rw[if_neg he];refine Ml (m:=n) _ _ ?_
    by_cases h2:a<2
    ·exact .inl h2
    ·have ho:a%2=1:=by omega
     obtain⟨k,k1,k2,k3⟩:=hnet (a-1) (by
      have:=F.even (a/2) (by omega) (by omega)
      rwa[show 2*(a/2)=a-1 by omega]at this)
     exact .inr ⟨ho,k,by omega,k2,k3⟩
 ·have h1:i<(aY n).ai.length:=by
   have:=congrArg List.length l1;rw[iB]at this
   rw[hlat,this,ok.lL];exact hi
  refine⟨_,a_ h1,?_⟩
  have e:(aY n).ai[i].next=cC (cu n L).ar (n.g.next[i]).toNat:=by
   have h2:((cR n).2.map (·.next))[i]? =some (cC (cu n L).ar (n.g.next[i]).toNat):=by rw[l3,jc,a_ hi];rfl
   rw[jc,<-hlat,a_ h1]at h2;simpa using h2
  rw[e];obtain⟨k,_,k2,k3⟩:=hnet _ (hk _ (bZ hi));exact⟨k,k2,k3⟩
 ·by_cases hp:cA n n.aq[i]<0
  ·have hz:i<(n.aq.zip n.g.outs).length:=by simp;omega
   have hm:(n.aq[i],n.g.outs[i])∈eg n:=by
    simp only[eg,dh,a8];refine⟨?_,hp⟩;have:=bZ hz;rwa[List.getElem_zip]at this
   obtain⟨r,hr,he⟩:=jK hm;refine⟨(n.ak++n.ai).length+L.length+r,?_,?_⟩
   ·rw[hN,e_ (by rw[<-lz,hkl];omega),<-lz,hkl,xx,jc,a_ hr,he];rfl
   ·rw[e_ (by rw[hkl];omega),hkl,xx,jc,a_ hr,he];rfl
  ·have h3:=ok.out i h2 h1 (by omega);obtain⟨k,k1,k2,k3⟩:=Vd (m:=n) (s:=n.aq[i]) (by omega);refine⟨k,?_,?_⟩
   ·rw[hN,eV,c8,dk k1,a_ k1,k2]
   ·rw[dk (by rw[hkl];omega),bD,dk (by simpa[iO]using k1)];simp only[iO,jc,Q5 k1,eb];congr 1;omega
 ·rw[hN,eV]at hs
  rcases ba.1 hs with hs|hs
  ·rcases ba.1 hs with hs|hs
   ·exact .inl (jJ _ hs)
   ·obtain⟨j,j1,j2⟩:=L9 (gA n) L.length s hs;exact .inr ⟨j,by omega,j2⟩
  ·obtain⟨p,hp,rfl⟩:=db.1 hs;exact .inl (sD _ (hout p hp).1)
def eF(l:List Nat)(a:Nat):List Nat:=if a%2=1/\a∉l then l++[a]else l
def FJ(p:Int×Int):List Nat:=[p.1.toNat,p.2.toNat]
def asked(g:Gr):List Nat:=g.ands.flatMap FJ++g.next.map (·.toNat)
def rV(g:Gr):List Nat:=(asked g).foldl eF []
def t_(g:Gr):Nat:=if g.check=0 then g.normal.ands.length+(rV g.normal).length else 0
end Go.Proofs.YtchjijfjidlpjaaGreatDoor
namespace Go.Proofs.YtchjijfjidlpjaaGreatDoor
open Go.AM Go.Proofs
variable{Γ:Nat->Option AV}
theorem DI(m:Md)(hb:mb m):aN Tryz.prog Γ sK [cp m] (.aL [cp (fL m).1,.int .i64 (fL m).2]):=by
 have hC:=YJ (Γ:=Γ) m hb;have hN:=Ix (Γ:=Γ) m.g hb.1;unfold fL;refine .run 60 Sy (by simp) ?_;simp;refine .call 60 (by simp) hC ?_
 by_cases h:cO m=0
 ·simp[h];refine .call 60 (by simp) hN ?_;simp;exact .back (by simp[cB])
 ·simp[h];exact .back (by simp[j_,kW])
abbrev Bz(a:Nat):AV×AV:=(iN a,.bool true)
theorem MN(a:Nat):∀s:List Nat,iK (.sc .int) (iN a) (.bool true) (s.map Bz)=some ((if a∈s then s else s++[a]).map Bz)
 |[]=>by simp[iK]
 |b::s=>by
  have ih:=MN a s;rw[cv,iK,EP]
  by_cases h:a=b
  ·subst h;simp
  ·simp only[h,pL,ih]
   by_cases h2:a∈s<;>simp[h2,h]
abbrev BS(g:Gr)(s:List Nat)(tl:List Ob):List Ob:=.cells (AV.cells (cg g))::.cells (AV.cells (cg g.normal))::.row 1 az [] none true false::.row 1 az [] none true false::.row 2 bI [] none true false::.row 1 az [] none true false::.map (s.map Bz) true::.cells [.mp 6]::tl
theorem and_1{a:Nat}(ha:(a:Int)<2^60):gf .and .i64 (a:Int) 1=some ((a%2:Nat):Int):=by
 have h1:(BitVec.ofInt 64 (a:Int)&&&BitVec.ofInt 64 1).toNat=a%2:=by
  have e1:(BitVec.ofInt 64 1).toNat=1:=by decide
  rw[BitVec.toNat_and,e1,Nat.and_one_is_mod,HT];omega
 show some (IntKind.i64.wrap ((BitVec.ofInt 64 (a:Int)&&&BitVec.ofInt 64 1).toNat:Int))=_
 rw[h1,wB (by omega)]
theorem YP(n:Nat)(s:List Nat):iw n (s.map Bz)=true:=by
 induction s with
 |nil=>rfl
 |cons a s ih=>simpa[iw]using ih
theorem Z3(s:List Nat)(a:Nat):eF s a=if a%2=1 then(if a∈s then s else s++[a])else s:=by
 unfold eF
 by_cases h:a%2=1<;>by_cases h2:a∈s<;>simp[h,h2]
theorem Fl(g:Gr)(s:List Nat)(tl:List Ob)(a:Nat)(ha:(a:Int)<2^60):∀up,AM.Reach Tryz.prog Γ (.cl sI [iN a,.ptr 7 0] up (BS g s tl)) (.back up (.aL []) (BS g (eF s a) tl)):=by
 intro up;have hp:=MN a s;have hbit:=and_1 ha;have q:((a:Int)%2=1)=(a%2=1):=propext (by omega);rw[Z3];refine .dq 60 Su ?_
 by_cases h:a%2=1
 ·simp[hbit,q,h,hp,isKey,cz,c9]
  try exact .refl _
 ·simp[hbit,q,h]
  try exact .refl _
set_option maxRecDepth 8000 in
theorem abP(g:Gr)(x:Gr)(hx:x=g.normal)(ox:x.Ok):∀k i:Nat,i+k=x.next.length->∀s:List Nat,s.length<2^30+i->
 aB Tryz.prog Γ (yeK (.ptr 1 0) (.ptr 7 0) (.fn (.func sI) [] [.ptr 7 0]) (.list false x.kn (x.next.map i64)) (.int .i64 x.next.length) (.int .i64 i) (BS g s [])) (.ret (.int .i64 ((x.ands.length+(((x.next.drop i).map (·.toNat)).foldl eF s).length:Nat):Int))):=by
 have hlt:=wa ox;have o3:=ox.sum;have o1:=ox.ins;intro k
 induction k with
 |zero=>
  intro i hi s hs
  have q1:¬i<x.next.length:=by omega
  rw[bq (by omega)];subst hx;refine .go 60 ?_;simp(disch:=omega) [q1];exact .back (by simp)
 |succ k ih=>
  intro i hi s hs
  have q1:i<x.next.length:=by omega
  have q2:=bl (x.hn.of q1);obtain⟨b1,b2⟩:=ox.next _ (bZ q1);obtain⟨a,ha⟩:=cS b1;have hR:=Fl (Γ:=Γ) g s [] a (by omega)
  have h2:(eF s a).length<=s.length+1:=by
   unfold eF
   split<;>simp
  have hh:=ih (i+1) (by omega) (eF s a) (by omega);rw[br q1,cv,sw,ha];simp only[cZ];refine .go 60 ?_;simp[q1,q2,ha];refine .dE 60 hR ?_;simp;refine .aT ?_;simp(disch:=omega);simp at hh⊢;exact hh
set_option maxRecDepth 8000 in
theorem abN(g:Gr)(x:Gr)(hx:x=g.normal)(ox:x.Ok):∀k i:Nat,i+k=x.ands.length->∀s:List Nat,s.length<2^29+2*i->
 aB Tryz.prog Γ (yeM (.ptr 1 0) (.ptr 7 0) (.fn (.func sI) [] [.ptr 7 0]) (.list false x.ka (x.ands.map cy)) (.int .i64 x.ands.length) (.int .i64 i) (BS g s [])) (.ret (.int .i64 ((x.ands.length+(((x.ands.drop i).flatMap FJ++x.next.map (·.toNat)).foldl eF s).length:Nat):Int))):=by
 have hlt:=wa ox;have o3:=ox.sum;have o1:=ox.ins;intro k
 induction k with
 |zero=>
  intro i hi s hs
  have q1:¬i<x.ands.length:=by omega
  have hh:=abP (Γ:=Γ) g x hx ox x.next.length 0 (by omega) s (by omega);rw[bq (by omega)];subst hx;refine .go 60 ?_;simp[q1];refine .inLoop ?_;simp at hh⊢;exact hh
 |succ k ih=>
  intro i hi s hs
  have q1:i<x.ands.length:=by omega
  have q2:=bl (x.ha.of q1);obtain⟨⟨b1,b2⟩,b3,b4⟩:=ox.ands i q1;obtain⟨a,ha⟩:=cS b1;obtain⟨b,hb⟩:=cS b3
  have hfb:x.first<=8001:=by have:=ox.ins;unfold Gr.first;omega
  have hR:=Fl (Γ:=Γ) g s [.cells [iN a,iN b]] a (by omega);have hR2:=Fl (Γ:=Γ) g (eF s a) [.cells [iN a,iN b]] b (by omega)
  have h2:∀(s:List Nat)(a:Nat),(eF s a).length<=s.length+1:=by
   intro s a;unfold eF
   split<;>simp
  have h3:=h2 s a;have h4:=h2 (eF s a) b;have hh:=ih (i+1) (by omega) (eF (eF s a) b) (by omega);have hbs:=YP 8 (eF (eF s a) b);rw[br q1,nn,FJ,ha,hb,c8];simp only[cZ,ek,lg,sw];refine .go 60 ?_;simp[q1,q2,ha,hb];refine .dE 60 hR ?_;simp;refine .dE 60 hR2 ?_;simp;refine .aT ?_;simp(disch:=omega);refine .drop 8 rfl (by simp) (by simp) (by simp[hbs]) ?_;simp at hh⊢;exact hh
theorem Lf(g:Gr)(hf:g.dJ):aN Tryz.prog Γ qY [cg g] (.int .i64 (t_ g)):=by
 have hN:=Ix (Γ:=Γ) g hf;unfold t_;refine .run 60 S3 (by simp) ?_;simp;refine .call 60 (by simp) hN ?_
 by_cases h:g.check=0
 ·have ox:g.normal.Ok:=Gr.lH (xO h).2.1;have hh:=abN (Γ:=Γ) g g.normal rfl ox g.normal.ands.length 0 (by omega) [] (by simp);unfold rV asked;simp[h];refine .inLoop ?_;simp at hh⊢;exact hh
 ·simp[h];exact .back (by simp)
theorem Kw{a b:Nat}{m:List (Nat×Bs)}{s:Bs}(h:getM b m=none)(hne:¬b=a):getM b (m++[(a,s)])=none:=by
 rw[getM_none]at h⊢;intro x hx
 rcases ba.1 hx with hx|hx
 ·exact h x hx
 ·simp only[cG]at hx;subst hx
  exact fun e=>hne e.symm
structure mN(x:Ra)(B K:Nat):Prop where
 g:x.af.length<=K
 u:x.used.length<=20000+K
 k:∀b,B<=b->getM b x.ar=none
theorem mN.make{x:Ra}{B K a:Nat}(h:mN x B K)(b:By){B':Nat}(hB:B<=B')(ha:a<B'):mN (x.make a b) B' (K+1):=
 ⟨by have:=h.g;simp[Ra.make];omega,by have:=h.u;simp[Ra.make];omega,fun c hc=>Kw (h.k c (by omega)) (by omega)⟩
theorem mN.aP{x:Ra}{B K a:Nat}(h:mN x B K)(ha:a<B):mN (x.aP a) B (K+1):=by
 unfold Ra.aP
 split
 ·exact⟨by have:=h.g;omega,by have:=h.u;omega,h.k⟩
 ·exact h.make _ (aU _) ha
theorem ub(x:Ra)(a:Nat){g:Option Nat}(h:g=none\/g=some 0):uL x a g=none\/uL x a g=some 0:=by
 unfold uL
 split
 ·exact h
 ·exact .inr rfl
section
variable{a1 a2 a3 a4 a5 rL:Ob}{I O:AV}
set_option maxRecDepth 8000 in
theorem acA(hP:mY Γ)(n:Md)(og:n.g.Ok)(H:fZ (.cells (AV.cells (cp n))) a1 a2 a3 a4 a5 I O rL [])(nl:Nat)(X:Ra){o:Out}
 (hc:∀gu gg,gu=none\/gu=some 0->gg=none\/gg=some 0->aB Tryz.prog Γ (ybG (.ptr 0 0) (.ptr 1 0) (.ptr 6 0) (dj (.cells (AV.cells (cp n))) a1 a2 a3 a4 a5 I O nl X gu gg rL [])) o):
 ∀k i:Nat,i+k=n.g.ands.length->∀(x:Ra)(gu gg:Option Nat),gu=none\/gu=some 0->gg=none\/gg=some 0->mN x (2*(n.g.first+i)) (3*i)->jq n.g.first (n.g.ands.drop i) i x=X->
 aB Tryz.prog Γ (Pg (.ptr 0 0) (.ptr 1 0) (.ptr 6 0) (iN n.g.first) (.list false n.g.ka (n.g.ands.map cy)) (.int .i64 n.g.ands.length) (.int .i64 i) (dj (.cells (AV.cells (cp n))) a1 a2 a3 a4 a5 I O nl x gu gg rL [])) o:=by
 have o1:=og.ins;have o3:=og.sum
 have hfb:n.g.first<=8001:=by unfold Gr.first;omega
 intro k
 induction k with
 |zero=>
  intro i hi x gu gg hu hg hF hX
  have q1:¬i<n.g.ands.length:=by omega
  rw[bq (by omega),jq]at hX;subst hX;refine .gk 60 ?_;simp[q1];exact .reach (.exit rfl rfl) (hc gu gg hu hg)
 |succ k ih=>
  intro i hi x gu gg hu hg hF hX
  have q1:i<n.g.ands.length:=by omega
  have q2:=bl (n.g.ha.of q1);obtain⟨⟨b1,b2⟩,b3,b4⟩:=og.ands i q1;obtain⟨p,hp⟩:=cS b1;obtain⟨q,hq⟩:=cS b3;rw[br q1,jq,hp,hq]at hX;simp only[cZ]at hX;have f1:=hF.aP (a:=p) (by omega);have f2:=f1.aP (a:=q) (by omega);have f3:=f2.make (a:=2*(n.g.first+i)) (.both p q) (B':=2*(n.g.first+(i+1))) (by omega) (by omega)
  have hJ:∀m,12<=m->dS m [Ob.cells [iN p,iN q]]=true:=fun m hm=>by simp
  have H1:=H.more hJ;have N1:=Fc hP H1 nl x gu gg hu hg (by have:=hF.g;omega) (by have:=hF.u;omega) p (by omega);have m1:=ub x p hu;have m2:=ub x p hg;have N2:=Fc hP H1 nl (x.aP p) _ _ m1 m2 (by have:=f1.g;omega) (by have:=f1.u;omega) q (by omega);have m3:=ub (x.aP p) q m1;have m4:=ub (x.aP p) q m2;have N3:=Nk hP H1 nl ((x.aP p).aP q) _ _ m3 m4 (by have:=f2.g;omega) (by have:=f2.u;omega) (2*(n.g.first+i)) (f2.k _ (by omega)) (.both p q) trivial;have hh:=ih (i+1) (by omega) _ (some 0) (some 0) (.inr rfl) (.inr rfl) (by have:=f3;rw[show 3*(i+1)=3*i+1+1+1 by omega];exact this) hX;refine .go 60 ?_;simp[q1,q2,hp,hq];refine .dE 60 N1 ?_;simp;refine .dE 60 N2 ?_;simp(disch:=omega);refine .dE 60 N3 ?_;simp(disch:=omega);refine .aT ?_;simp;refine .drop 12 rfl (by simp) (by simp) (H.wf nl _ _ _ 12 (by simp)) ?_;simp at hh⊢;exact hh
abbrev uv(ls:List Lt)(gl:Option Nat):Ob:=.row 3 hY (ls.map na) gl true false
theorem Y5(n:Nat)(l:List Lt):aO n (l.map na)=true:=by
 induction l with
 |nil=>rfl
 |cons x m ih=>simp[ih]
theorem fZ.Pp{a0:Ob}{tl:List Ob}(H:fZ a0 a1 a2 a3 a4 a5 I O rL tl)(ls:List Lt)(gl:Option Nat):fZ a0 a1 a2 a3 a4 a5 I O (uv ls gl) tl:=
 ⟨fun n hn=>by
  have:=H.a n hn;have b:=Y5 n ls;simp at this⊢
  simp[this,b],H.i,H.t⟩
set_option maxRecDepth 8000 in
theorem acx(hP:mY Γ)(n:Md)(og:n.g.Ok)(hl:n.ai.length=n.g.next.length)(H:fZ (.cells (AV.cells (cp n))) a1 a2 a3 a4 a5 I O rL [])(X:Ra)(XL:List Lt){o:Out}
 (hc:∀gu gg gl,gu=none\/gu=some 0->gg=none\/gg=some 0->gl=none\/gl=some 0->aB Tryz.prog Γ (ybD (.ptr 0 0) (.ptr 1 0) (.ptr 6 0) (dj (.cells (AV.cells (cp n))) a1 a2 a3 a4 a5 I O XL.length X gu gg (uv XL gl) [])) o):
 ∀k i:Nat,i+k=n.ai.length->∀(x:Ra)(ls:List Lt)(gu gg gl:Option Nat),gu=none\/gu=some 0->gg=none\/gg=some 0->gl=none\/gl=some 0->mN x (2*(n.g.first+n.g.ands.length)) (3*n.g.ands.length+i)->ls.length=i->(ec (n.ai.drop i) (n.g.next.drop i) (n.g.init.drop i) x).1=X->ls++(ec (n.ai.drop i) (n.g.next.drop i) (n.g.init.drop i) x).2=XL->
 aB Tryz.prog Γ (ybC (.ptr 0 0) (.ptr 1 0) (.ptr 6 0) (.list false n.kL (n.ai.map .str)) (.int .i64 n.ai.length) (.int .i64 i) (dj (.cells (AV.cells (cp n))) a1 a2 a3 a4 a5 I O ls.length x gu gg (uv ls gl) [])) o:=by
 have o1:=og.ins;have o3:=og.sum
 have hfb:n.g.first<=8001:=by unfold Gr.first;omega
 have hs:=og.same;intro k
 induction k with
 |zero=>
  intro i hi x ls gu gg gl hu hg hl hF hls hX hXL
  have q1:¬i<n.ai.length:=by omega
  rw[bq (by omega),ec]at hX hXL
  ·subst hX;rw[eL]at hXL;subst hXL;refine .gk 60 ?_;simp[q1];exact .reach (.exit rfl rfl) (hc gu gg gl hu hg hl)
  all_goals (intro s l a n v i h;cases h)
 |succ k ih=>
  intro i hi x ls gu gg gl hu hg hgl hF hls hX hXL
  have q1:i<n.ai.length:=by omega
  have q2:=bl (n.hL.of q1)
  have q3:i<n.g.next.length:=by omega
  have q4:=bl (n.g.hn.of q3)
  have q5:i<n.g.init.length:=by omega
  have q6:=bl (n.g.hi.of q5);obtain⟨b1,b2⟩:=og.next _ (bZ q3);have hlits:n.g.lits=2*(n.g.first+n.g.ands.length):=rfl;obtain⟨p,hp⟩:=cS b1;rw[br q1,br q3,br q5,ec,hp]at hX hXL;simp only[cZ]at hX hXL;have f1:=hF.aP (a:=p) (by omega);have N1:=Fc hP (H.Pp ls gl) ls.length x gu gg hu hg (by have:=hF.g;omega) (by have:=hF.u;omega) p (by omega);have m1:=ub x p hu;have m2:=ub x p hg;have hh:=ih (i+1) (by omega) (x.aP p) (ls++[⟨n.ai[i],cC (x.aP p).ar p,n.g.init[i]⟩]) _ _ (some 0) m1 m2 (.inr rfl) f1 (by simp[hls]) hX (by rw[<-hXL];simp)
  have hle:(ls.length+1)*40<=140737488355328:=by omega
  subst hls
  rcases hgl with rfl|rfl
  all_goals
   refine .go 60 ?_;simp[q1,q2];refine .dr 60 ?_;simp[q3,q4,hp];refine .reach (by simp) N1 ?_;simp(disch:=omega) [q5,q6,hle];refine .aT ?_;simp[uv]at hh⊢;exact hh
end
def kK(m:List (Nat×Bs))(s:Bs)(a:Nat):AV:=if 2<=a/\a%2=0 then lT s 2 (.list true 1 [.str (cC m a)])else(dY a).raw m s
section
variable{a0 a1 a2 a3 a4 a5 rL:Ob}{I O:AV}{tl:List Ob}
set_option maxRecDepth 8000 in
theorem X4(H:fZ a0 a1 a2 a3 a4 a5 I O rL tl)(nl:Nat)(x:Ra)(gu gg:Option Nat)(s:Bs)(a:Nat)(ha:(a:Int)<2^60):
 ∀up,AM.Reach Tryz.prog Γ (.cl xE [.ptr 6 0,.str s,iN a] up (dj a0 a1 a2 a3 a4 a5 I O nl x gu gg rL tl)) (.back up (kK x.ar s a) (dj a0 a1 a2 a3 a4 a5 I O nl x gu gg rL tl)):=by
 intro up;have hw:=H.wf nl x gu gg;have hB:=NZ (Γ:=Γ) a;have hbit:=and_1 ha;have hlk:=tJ a x.ar
 have hbr:∀n,aJ n (kK x.ar s a)=true:=by
  intro n;unfold kK dY
  split
  ·simp
  ·split<;>simp[By.raw]
 refine .zY [.cells (AV.cells (kK x.ar s a)),.row 1 au [] none true false,.row 1 au [] none true false,.cells (AV.cells (kK x.ar s a)),.row 1 au [] none true false,.row 1 au [] none true false] hw (hbr _) ?_;refine .dq 60 RN ?_
 by_cases h2:a<2
 ·have hby:dY a=.one (decide (a=1)):=by unfold dY;rw[if_pos h2]
  have hout:kK x.ar s a=lT s (if a=1 then 1 else 0) (.list true 0 []):=by
   unfold kK;rw[if_neg (by omega),hby];simp[By.raw]
  have hG:=fun g hg=>Nh (Γ:=Γ) (decide (a=1)) (.mp 8) (h:=g) hg
  have q1:¬(1:Int)<a:=by omega
  rw[hby]at hB;rw[hout];simp;refine .eW 60 ?_;simp;refine .quiet hB (uq _) (by simp[dx]) ?_;simp[dx];refine .rP eZ (by simp) hG (by simp;exact H.nc nl x gu gg _ (by intro n hn;simp at hn;simp;omega)) ?_;simp[q1];exact H.nc nl x gu gg _ (by intro n hn;simp at hn;simp;omega)
 ·have hby:dY a=.qk a:=by unfold dY;rw[if_neg h2]
  have hG:=fun g (hg:eZ g/\g[8]? =some (.map (x.ar.map jz) true))=>KE (Γ:=Γ) a ha x.ar (q:=8) (h:=g) hg.2 hg.1
  have q1:(1:Int)<a:=by omega
  have q2:((a:Int)%2=0)=(a%2=0):=propext (by omega);rw[hby]at hB
  by_cases h0:a%2=0
  ·have hout:kK x.ar s a=lT s 2 (.list true 1 [.str (cC x.ar a)]):=by
    unfold kK;rw[if_pos ⟨by omega,h0⟩]
   rw[hout];unfold cC at*
   cases hg:getM a x.ar with
   |none=>
    rw[hg]at hlk;simp at hlk;simp;refine .eW 60 ?_;simp;refine .quiet hB (uq _) (by simp[dx]) ?_;simp[dx];refine .rP (fun g=>eZ g/\g[8]? =some (.map (x.ar.map jz) true)) (by simp) hG (by simp;exact H.nc nl x gu gg _ (by intro n hn;simp at hn;simp;omega)) ?_;simp[q1,hbit,q2,h0,hlk,isKey,cz,c9];exact H.nc nl x gu gg _ (by intro n hn;simp at hn;simp;omega)
   |some r=>
    rw[hg]at hlk;simp at hlk;simp;refine .eW 60 ?_;simp;refine .quiet hB (uq _) (by simp[dx]) ?_;simp[dx];refine .rP (fun g=>eZ g/\g[8]? =some (.map (x.ar.map jz) true)) (by simp) hG (by simp;exact H.nc nl x gu gg _ (by intro n hn;simp at hn;simp;omega)) ?_;simp[q1,hbit,q2,h0,hlk,isKey,cz,c9];exact H.nc nl x gu gg _ (by intro n hn;simp at hn;simp;omega)
  ·have hout:kK x.ar s a=lT s 3 (.list true 1 [.str (cC x.ar (a^^^1))]):=by
    unfold kK;rw[if_neg (by omega),hby];rfl
   rw[hout];simp;refine .eW 60 ?_;simp;refine .quiet hB (uq _) (by simp[dx]) ?_;simp[dx];refine .rP (fun g=>eZ g/\g[8]? =some (.map (x.ar.map jz) true)) (by simp) hG (by simp;exact H.nc nl x gu gg _ (by intro n hn;simp at hn;simp;omega)) ?_;simp[q1,hbit,q2,h0];exact H.nc nl x gu gg _ (by intro n hn;simp at hn;simp;omega)
end
section
variable{a0 a1 a2 a3 a4 a5 rL:Ob}{I O:AV}{tl:List Ob}
theorem Zc(H:fZ a0 a1 a2 a3 a4 a5 I O rL tl)(nl:Nat)(x:Ra)(gu gg:Option Nat)(hg:gg=none\/gg=some 0)(hl:x.af.length<2^30)(s r:Bs):∀up,AM.Reach Tryz.prog Γ (.cl qW [lT s 2 (.list true 1 [.str r]),.ptr 7 0] up (dj a0 a1 a2 a3 a4 a5 I O nl x gu gg rL tl))
 (.back up (.aL []) (dj a0 a1 a2 a3 a4 a5 I O nl ⟨x.af++[dP s 2 [r]],x.used,x.ar⟩ gu (some 0) rL tl)):=by
 intro up;have hw:=H.wf nl ⟨x.af++[dP s 2 [r]],x.used,x.ar⟩ gu (some 0)
 have hle:(x.af.length+1)*80<=140737488355328:=by omega
 refine .EE [.cells (AV.cells (lT s 2 (.list true 1 [.str r])))] (by simp) hw rfl ?_
 rcases hg with rfl|rfl<;>(
  refine .dq 60 Ii ?_;simp;refine .eW 60 ?_;simp(disch:=omega) [dP,hle]
  exact .refl _)
theorem aan(H:fZ a0 a1 a2 a3 a4 a5 I O rL tl)(nl:Nat)(x:Ra)(gu gg:Option Nat)(hg:gg=none\/gg=some 0)(hl:x.af.length<2^30)(s:Bs)(a:Nat):∀up,AM.Reach Tryz.prog Γ (.cl qW [kK x.ar s a,.ptr 7 0] up (dj a0 a1 a2 a3 a4 a5 I O nl x gu gg rL tl))
 (.back up (.aL []) (dj a0 a1 a2 a3 a4 a5 I O nl ⟨x.af++[iV x.ar s a],x.used,x.ar⟩ gu (some 0) rL tl)):=by
 unfold kK iV
 by_cases h:2<=a/\a%2=0
 ·rw[if_pos h,if_pos h];exact Zc H nl x gu gg hg hl s _
 ·rw[if_neg h,if_neg h];exact Nb H nl x gu gg hg hl x.ar (dY a) s
set_option maxRecDepth 8000 in
theorem acn(n:Md)(og:n.g.Ok)(hI:n.ak.length<2^30)(hL:n.ai.length<2^30)(hlo:n.aq.length=n.g.outs.length)(H:fZ (.cells (AV.cells (cp n))) a1 a2 a3 a4 a5 I O rL [])(nl:Nat)(N:List (Nat×Bs))(U:List Bs)(G:List Gt){o:Out}
 (hc:∀gu gg,gu=none\/gu=some 0->gg=none\/gg=some 0->aB Tryz.prog Γ (ybA (.ptr 1 0) (.ptr 6 0) (dj (.cells (AV.cells (cp n))) a1 a2 a3 a4 a5 I O nl ⟨G,U,N⟩ gu gg rL [])) o):
 ∀k i:Nat,i+k=n.aq.length->∀(gs:List Gt)(gu gg:Option Nat),gu=none\/gu=some 0->gg=none\/gg=some 0->gs.length<=40000+i->gs++ep n N (n.aq.drop i) (n.g.outs.drop i)=G->
 aB Tryz.prog Γ (ybz (.ptr 0 0) (.ptr 1 0) (.ptr 6 0) (.list false n.kO (n.aq.map .str)) (.int .i64 n.aq.length) (.int .i64 i) (dj (.cells (AV.cells (cp n))) a1 a2 a3 a4 a5 I O nl ⟨gs,U,N⟩ gu gg rL [])) o:=by
 have o1:=og.eT;have hlt:=wa og;intro k
 induction k with
 |zero=>
  intro i hi gs gu gg hu hg hl hG
  have q1:¬i<n.aq.length:=by omega
  rw[bq (by omega),ep,eL]at hG
  ·subst hG;refine .gk 60 ?_;simp[q1];exact .reach (.exit rfl rfl) (hc gu gg hu hg)
  ·intro s l a r h;cases h
 |succ k ih=>
  intro i hi gs gu gg hu hg hl hG
  have q1:i<n.aq.length:=by omega
  have q2:=bl (n.hO.of q1)
  have q3:i<n.g.outs.length:=by omega
  have q4:=bl (n.g.ho.of q3);obtain⟨b1,b2⟩:=og.outs _ (bZ q3);obtain⟨a,ha⟩:=cS b1;have hP:=KZ (Γ:=Γ) n n.aq[i] hI hL;rw[br q1,br q3,ep,ha]at hG;simp only[cZ]at hG;have hR1:=X4 (Γ:=Γ) H nl ⟨gs,U,N⟩ gu gg n.aq[i] a (by omega);have hR2:=aan (Γ:=Γ) H nl ⟨gs,U,N⟩ gu gg hg (by simp;omega) n.aq[i] a;generalize cA n n.aq[i]=pl at*;refine .go 60 ?_;simp[q1,q2];refine .call 60 (by simp) hP ?_
  by_cases hp:pl<0
  ·rw[if_pos hp]at hG;have hh:=ih (i+1) (by omega) (gs++[iV N n.aq[i] a]) gu (some 0) hu (.inr rfl) (by simp;omega) (by rw[<-hG];simp);simp[hp];refine .dr 60 ?_;simp[q3,q4,ha];refine .reach (by simp) hR1 ?_;simp;refine .reach (by simp) hR2 ?_;simp(disch:=omega);refine .aT ?_;simp at hh⊢;exact hh
  ·rw[if_neg hp]at hG;have hh:=ih (i+1) (by omega) gs gu gg hu hg (by omega) hG;simp(disch:=omega) [hp];refine .aT ?_;simp at hh⊢;exact hh
end
end Go.Proofs.YtchjijfjidlpjaaGreatDoor
namespace Go.Proofs.YtchjijfjidlpjaaGreatDoor
open Go.AM Go.Proofs
theorem GD.ins{N:List Bs}{V:List Nat}{first:Nat}{ands:List (Int×Int)}{pos t t2 d:Nat}{g:Gt}(h:GD N V first ands pos t g d t2):iM g=true/\∀s∈g.ins,∃k,k<pos/\N[k]? =some s:=by
 cases h with
 |const s b=>
  refine⟨by cases b<;>simp[nK,iM,jB],fun s hs=>?_⟩;simp[nK]at hs
 |buf s k r a h1 h2 h3=>
  refine⟨by simp[dP,iM,jB],fun s hs=>?_⟩;simp only[dP,cG]at hs;subst hs;exact⟨k,h1,h2⟩
 |not s k r a h1 h2 h3=>
  refine⟨by simp[dP,iM,jB],fun s hs=>?_⟩;simp only[dP,cG]at hs;subst hs;exact⟨k,h1,h2⟩
 |and s k1 k2 r1 r2 p q h1 h2 h3 h4 h5 h6 h7=>
  refine⟨by simp[dP,iM,jB],fun s hs=>?_⟩;simp only[dP,bw,mr,mi]at hs
  rcases hs with rfl|rfl
  ·exact⟨k1,h1,h3⟩
  ·exact⟨k2,h2,h4⟩
theorem iy.Fu{n:Md}{V:List Nat}{ts:Nat->Nat}(h:iy n V ts):(aY n).ai.length=n.ai.length:=by
 have:=congrArg List.length h.abu;rwa[iB]at this
theorem iy.base{n:Md}{V:List Nat}{ts:Nat->Nat}(h:iy n V ts):(aY n).ak.length+(aY n).ai.length=(n.ak++n.ai).length:=by
 rw[h.Fu,bp];rfl
theorem iy.vZ{n:Md}{V:List Nat}{ts:Nat->Nat}(h:iy n V ts){i:Nat}(hi:i<(aY n).af.length):iM (aY n).af[i]=true/\∀s∈(aY n).af[i].ins,∃k,k<(n.ak++n.ai).length+i/\(bt (aY n))[k]? =some s:=by
 obtain⟨d,_,h1⟩:=h.gd i hi;exact h1.ins
theorem vr{α:Type}{l:List α}{k:Nat}{a:α}(h:l[k]? =some a):a∈l:=fQ h
theorem iy.D0{n:Md}(ok:gG n){V:List Nat}{ts:Nat->Nat}(h:iy n V ts){q:Lt}(hq:q∈(aY n).ai):q.next∈bt (aY n):=by
 obtain⟨i,hi,rfl⟩:=jK hq;obtain⟨q,h1,k,h2,_⟩:=h.next i (by rw[<-ok.lL,<-h.Fu];exact hi);rw[a_ hi]at h1
 cases h1
 exact vr h2
theorem iy.Z1{n:Md}(ok:gG n){V:List Nat}{ts:Nat->Nat}(h:iy n V ts){s:Bs}(hs:s∈n.aq):s∈bt (aY n):=by
 obtain⟨i,hi,rfl⟩:=jK hs;obtain⟨k,h2,_⟩:=h.outs i (by rw[<-ok.lO];exact hi) hi;exact vr h2
theorem iy.ok{n:Md}(ok:gG n)(hs:n.g.strict=true){V:List Nat}{ts:Nat->Nat}(h:iy n V ts)(hl:fD (aY n)=false):pa (aY n):=by
 obtain⟨o,_,_⟩:=pX hs;have hl2:=hl;simp only[fD,jI,gK]at hl2;have hb:=h.base
 have hnet:∀s∈bt (aY n),dd s=true:=fun s hs=>by
  rcases h.names s hs with h1|⟨j,hj,rfl⟩
  ·exact ok.names s h1
  ·exact Jj hj
 have hI:(aY n).ak=n.ak:=rfl;have hO:(aY n).aq=n.aq:=rfl;refine⟨hl,fun s hs=>?_,Lk h.nd,Lk ok.BZ,fun q hq=>?_,fun g hg=>?_,fun s hs=>?_⟩
 ·simp only[qo,o6,nM,ba,od,hI,hO]at hs
  rcases hs with((hs|hs)|⟨q,hq,hs⟩)|⟨g,hg,hs⟩
  ·exact ok.names s (by simp[hs])
  ·exact ok.names s (by simp[hs])
  ·simp only[bw,mr,mi]at hs
   rcases hs with rfl|rfl
   ·refine hnet _ ?_;simp only[bt,ba];exact .inl (.inr (db.2 ⟨q,hq,rfl⟩))
   ·exact hnet _ (h.D0 ok hq)
  ·simp only[bw]at hs
   rcases hs with rfl|hs
   ·refine hnet _ ?_;simp only[bt,ba];exact .inr (db.2 ⟨g,hg,rfl⟩)
   ·obtain⟨i,hi,rfl⟩:=jK hg;obtain⟨k,_,h2⟩:=(h.vZ hi).2 s hs;exact hnet _ (vr h2)
 ·have h1:q.init∈n.g.init:=by rw[<-h.abG];exact db.2 ⟨q,hq,rfl⟩
  have:=o.init _ h1;simp[nF,this]
 ·obtain⟨i,hi,rfl⟩:=jK hg;exact(h.vZ hi).1
 ·simp only[kQ,mO,ba,od,hO]at hs
  rcases hs with(hs|hs)|⟨g,hg,hs⟩
  ·exact h.Z1 ok hs
  ·obtain⟨q,hq,rfl⟩:=db.1 hs;exact h.D0 ok hq
  ·obtain⟨i,hi,rfl⟩:=jK hg;obtain⟨k,_,h2⟩:=(h.vZ hi).2 s hs;exact vr h2
theorem iy.sort{n:Md}{V:List Nat}{ts:Nat->Nat}(h:iy n V ts):cH (aY n)=List.range (aY n).af.length:=by
 refine UD fun i hi x hx=>?_
 obtain⟨_,hxl⟩:=qh hx;unfold ea at hx;rw[a_ hi,a_ hxl]at hx;simp only[Cc]at hx;obtain⟨k,hk,he⟩:=(h.vZ hi).2 _ hx;obtain⟨h1,h2⟩:=Nn (aY n) hxl;obtain⟨hk2,he2⟩:=pJ.1 he;have:=(List.getElem_inj (h₀:=hk2) (h₁:=h1) h.nd).1 (he2.trans h2.symm);have hb:=h.base;omega
theorem UP{c:Ct}(ok:pa c)(h:cH c=List.range c.af.length):GO c=true:=by
 have hr:=LS ok
 have hn:wc c=[]:=by
  have h2:=WS c;rw[h,qQ]at h2;rw[wc,if_pos hr,h];exact k_.1 (by omega)
 unfold GO As;rw[zV ok,hn];rfl
structure Fx(n:Md)(c:Ct)(t:Nat)(x:Gr):Prop where
 grow:fA (wu c) x
 ands:x.ands=n.g.ands.take t
theorem Fx.and{n:Md}{c:Ct}(hs:n.g.strict=true)(h1:(c.ak.length:Int)=n.g.ins)(h2:c.ai.length=n.g.next.length){t:Nat}{x:Gr}(h:Fx n c t x){p q:Nat}(hp:n.g.ands[t]? =some ((p:Int),(q:Int))):
 ∃y,gS x p q=(y,some (2*(n.g.first+t)))/\Fx n c (t+1) y:=by
 obtain⟨o,so,_⟩:=pX hs;obtain⟨ht,he⟩:=pJ.1 hp;obtain⟨p',q',e,a1,a2,a3,a4⟩:=so.at_ t ht;rw[he]at e;simp only[bH,Int.natCast_inj]at e;obtain⟨rfl,rfl⟩:=e;have hnew:=L0 (first:=n.g.first) (l:=n.g.ands.take t) a1 a2 a3 (by rw[<-he];exact Df so.nd ht)
 have hf:x.first=n.g.first:=by
  rw[h.grow.first];simp only[Gr.first,wu,ku,cZ];omega
 have hlen:(n.g.ands.take t).length=t:=by simp;omega
 have hsum:=o.sum
 have hins:x.ins=n.g.ins:=by rw[h.grow.ins];exact h1
 have hnx:x.next.length=n.g.next.length:=by rw[h.grow.next];simp[wu,h2]
 have hE:x.qB p q=0:=by
  unfold Gr.qB;rw[if_neg (by rw[Gr.rC h.grow.ok];decide),if_neg,if_neg]
  ·simp only[cZ,hf,h.ands,hnew,hins,hnx,bp,bC,cN,hlen];omega
  ·have hl:x.lits=2*(n.g.first+t):=by unfold Gr.lits Gr.all;rw[hf,h.ands,hlen]
   simp only[cQ,hl,fR,a8];omega
 refine⟨x.iQ p q,?_,?_⟩
 ·unfold gS;rw[if_pos hE];simp only[Gr.pk,hE,bY,cZ,hf,h.ands,hnew,hlen]
 ·have hO:gS x p q=(x.iQ p q,some (x.pk p q)):=by unfold gS;rw[if_pos hE]
  refine⟨h.grow.trans (ta h.grow.ok hO).1,?_⟩;simp only[Gr.iQ,hE,bY,Gr.sq,cZ,hf,h.ands,hnew];rw[pN ht,he]
theorem zg{s:Bs}(h:dd s=true):s.length<2^40:=by
 unfold dd at h;simp only[aC,a8]at h;have:=h.2;omega
theorem GD.small{N:List Bs}{V:List Nat}{first:Nat}{ands:List (Int×Int)}{pos t t2 d:Nat}{g:Gt}(h:GD N V first ands pos t g d t2):g.ins.length<=2/\g.rows=[]:=by
 cases h<;>simp[nK,dP]
theorem iy.b{n:Md}(ok:gG n)(hs:n.g.strict=true){V:List Nat}{ts:Nat->Nat}(h:iy n V ts):w6 (aY n):=by
 obtain⟨o,_,_⟩:=pX hs;have h1:=ok.lI;have h2:=ok.lL;have h3:=ok.lO;have h4:=o.sum;have h5:=o.eT;have h6:=h.Fu;have h7:=h.NQ
 have hnet:∀s∈bt (aY n),s.length<2^40:=fun s hs=>by
  rcases h.names s hs with h1|⟨j,hj,rfl⟩
  ·exact zg (ok.names s h1)
  ·exact zg (Jj hj)
 have hg:∀g∈(aY n).af,g.name∈bt (aY n):=fun g hg=>by
  simp only[bt,ba];exact .inr (db.2 ⟨g,hg,rfl⟩)
 have hI:(aY n).ak=n.ak:=rfl;have hO:(aY n).aq=n.aq:=rfl;refine⟨by rw[hI];omega,by rw[hO];omega,by omega,by omega,fun g hg2=>?_,fun s hs=>?_,fun s hs=>?_,fun q hq=>⟨?_,?_⟩⟩
 ·obtain⟨i,hi,rfl⟩:=jK hg2;obtain⟨d,_,h8⟩:=h.gd i hi
  have h9:=fun s hs=>(h.vZ hi).2 s hs
  obtain⟨s1,s2⟩:=h8.small;refine⟨hnet _ (hg _ hg2),by omega,by rw[s2];simp,fun s hs=>?_,by rw[s2];simp⟩;obtain⟨k,_,h2⟩:=h9 s hs;exact hnet _ (vr h2)
 ·exact zg (ok.names s (by rw[hI]at hs;simp[hs]))
 ·exact zg (ok.names s (by rw[hO]at hs;simp[hs]))
 ·refine hnet _ ?_;simp only[bt,ba];exact .inl (.inr (db.2 ⟨q,hq,rfl⟩))
 ·exact hnet _ (h.D0 ok hq)
theorem VY{c:Ct}(h:fD c=true):fY c=(8,[]):=by unfold fY;rw[if_pos h]
theorem Lz{m:Md}(h:cO m=0):gG (cB m)/\(cB m).g.strict=true/\w6 (aY (cB m))/\((fD (aY (cB m))=true/\ig m=(eY,8))\/(fD (aY (cB m))=false/\ig m=(aY (cB m),0)/\pa (aY (cB m))/\GO (aY (cB m))=true)):=by
 obtain⟨ok,hs⟩:=(zt h).norm;obtain⟨V,ts,D⟩:=Gf ok hs;refine⟨ok,hs,D.b ok hs,?_⟩;unfold ig;rw[if_pos h]
 cases hl:fD (aY (cB m))with
 |true=>
  rw[VY hl];exact .inl ⟨rfl,rfl⟩
 |false=>
  have okc:=D.ok ok hs hl;rw[zV okc];exact .inr ⟨rfl,rfl,okc,UP okc D.sort⟩
theorem YB{a b:Md}(h:oW a b=true):dN a.g b.g=true/\a.ak=b.ak/\a.ai=b.ai/\a.aq=b.aq:=by
 simp only[oW,aC,a8]at h;exact⟨h.1,h.2.1,h.2.2.1,h.2.2.2⟩
theorem Jx{a b:Md}(h1:a.ak=b.ak)(h2:a.ai=b.ai)(m:List (Nat×Bs)):∀(l:List Bs)(r:List Int),ep a m l r=ep b m l r
 |[],r=>by simp[ep]
 |s::l,[]=>by simp[ep]
 |s::l,x::r=>by
  have e:cA a s=cA b s:=by unfold cA;rw[h1,h2]
  rw[ep,ep,Jx h1 h2 m l r,e]
theorem X8{a b:Md}(h:oW a b=true):aY a=aY b:=by
 obtain⟨h1,h2,h3,h4⟩:=YB h;obtain⟨e1,e2,e3,e4,e5⟩:=pZ h1
 have ef:a.g.first=b.g.first:=by unfold Gr.first;rw[e1,e2]
 have r0:fF a=fF b:=by unfold fF;rw[h2,h3,h4]
 have rA:l0 a=l0 b:=by unfold l0;rw[r0,ef,e4]
 have rL:cR a=cR b:=by unfold cR;rw[rA,h3,e2,e3]
 unfold aY;simp only[rL,h2,h4,e5,Jx h2 h3]
end Go.Proofs.YtchjijfjidlpjaaGreatDoor
namespace Go.Proofs.YtchjijfjidlpjaaGreatDoor
open Go.AM Go.Proofs
variable{Γ:Nat->Option AV}
def da{α:Type}(g:Option Nat):List α->Option Nat
 |[]=>g
 |_=>some 0
theorem tV{α:Type}(g:Option Nat):da g ([]:List α)=g:=rfl
theorem Yc{α:Type}(g:Option Nat)(a:α)(l:List α):da g (a::l)=some 0:=rfl
theorem YH{α:Type}(l:List α):da (some 0) l=some 0:=by cases l<;>rfl
theorem tW{α:Type}{g:Option Nat}(h:g=none\/g=some 0)(l:List α):da g l=none\/da g l=some 0:=by
 cases l
 ·exact h
 ·exact .inr rfl
section
variable{a0 a1 a2 a3 a4 a5 rL:Ob}{I O:AV}{tl:List Ob}
set_option maxRecDepth 8000 in
theorem N4(l:List Bs){fl:Bool}{kd:Nat}(hk:Kd 1 kd l)(hl:l.length<2^30)(x1 x46 x47 x48:AV)(e:Cx)(nl:Nat)(gg:Option Nat)(U:List Bs)(N2:List (Nat×Bs)){c:AM.aw}:
 ∀k i:Nat,i+k=l.length->∀(u:List Bs)(N:List (Nat×Bs))(gu:Option Nat),gu=none\/gu=some 0->u.length<2^31+i->(∀b,2*u.length<b->getM b N=none)->u++l.drop i=U->N++eR u.length (l.drop i)=N2->
 AM.Reach Tryz.prog Γ (ygg x1 (.ptr 7 0) x46 x47 x48 (dj a0 a1 a2 a3 a4 a5 I O nl ⟨[],U,N2⟩ (da gu (l.drop i)) gg rL tl) e) c->
 AM.Reach Tryz.prog Γ (ygf x1 (.ptr 7 0) x46 x47 x48 (.list fl kd (l.map .str)) (.int .i64 l.length) (.int .i64 i) (dj a0 a1 a2 a3 a4 a5 I O nl ⟨[],u,N⟩ gu gg rL tl) e) c:=by
 intro k
 induction k with
 |zero=>
  intro i hi u N gu hu hul hN hU hN2 hc
  have q1:¬i<l.length:=by omega
  rw[bq (by omega),eL]at hU;rw[bq (by omega),eR,eL]at hN2;rw[bq (by omega),tV]at hc;subst hU;subst hN2;refine .gk 60 ?_;simp[q1];exact .trans (.exit rfl rfl) hc
 |succ k ih=>
  intro i hi u N gu hu hul hN hU hN2 hc
  have q1:i<l.length:=by omega
  have q2:=bl (hk.of q1);rw[br q1]at hU hN2 hc;rw[eR]at hN2;rw[Yc,<-YH (l.drop (i+1))]at hc;have hput:=M' (a:=2*(u.length+1)) l[i] (hN _ (by omega));have hh:=ih (i+1) (by omega) (u++[l[i]]) (N++[(2*(u.length+1),l[i])]) (some 0) (.inr rfl) (by simp;omega) (fun b hb=>Kw (hN b (by simp at hb;omega)) (by simp at hb;omega)) (by rw[<-hU];simp) (by rw[<-hN2];simp) hc
  have hle:(u.length+1)*16<=140737488355328:=by omega
  have e1:(2*((u.length:Int)+1))=((2*(u.length+1):Nat):Int):=by omega
  rw[<-e1]at hput
  rcases hu with rfl|rfl
  all_goals
   refine .gk 60 ?_;simp[q1,q2];refine .pw 60 ?_;simp(disch:=omega) [hle,hput,isKey,cz,c9];refine .aT ?_;simp[dj]at hh⊢;exact hh
theorem J7:∀(l l2:List Bs)(k:Nat),eR k (l++l2)=eR k l++eR (k+l.length) l2
 |[],l2,k=>by simp[eR]
 |s::l,l2,k=>by
  rw[ek,eR,eR,J7 l l2 (k+1),ek,bC,show k+1+l.length=k+(l.length+1) by omega]
theorem Da:∀(l:List Bs)(k b:Nat),2*(k+l.length)<b->getM b (eR k l)=none
 |[],k,b,h=>rfl
 |s::l,k,b,h=>by
  simp only[bC]at h;rw[eR,getM,if_neg (by omega)];exact Da l (k+1) b (by omega)
abbrev uK:Ob:=.cells [.sl 2 0 0,.sl 3 0 0,.sl 4 0 0,.sl 5 0 0]
abbrev l8:Ob:=.row 1 au [] none true false
abbrev uH:Ob:=.row 3 hY [] none true false
abbrev uG:Ob:=.row 5 dB [] none true false
set_option maxRecDepth 8000 in
theorem YD(n:Md)(hI:n.ak.length<2^20)(hL:n.ai.length<2^20)(hO:n.aq.length<2^20):∀up,AM.Reach Tryz.prog Γ (.cl qX [cp n] up [.cells (AV.cells (cp n)),uK,l8,l8,uH,uG])
 (.back up (.ptr 6 0) (dj (.cells (AV.cells (cp n))) uK l8 l8 uH uG (.list false 1 (n.ak.map .str)) (.list false 1 (n.aq.map .str)) 0 (fF n) (da (da (da none n.ak) n.ai) n.aq) none (.row 3 hY [] none true false)
  [.row 1 au (n.ak.map .str) (da none n.ak) true true,.row 1 au (n.aq.map .str) (da none n.aq) true true,.cells (AV.cells (cp n))])):=by
 intro up;have hkI:(n.kI=1\/n.ak=[])=True:=bl n.hI;have hkO:(n.kO=1\/n.aq=[])=True:=bl n.hO;refine .dq 60 SW ?_;simp;refine .trans (.nA (i:=8) (j:=4) (k:=1) au rfl rfl (by omega)) ?_;simp;refine .trans (.nA (i:=8) (j:=3) (k:=5) dB rfl rfl (by omega)) ?_;simp;refine .trans (.nA (i:=8) (j:=2) (k:=3) hY rfl rfl (by omega)) ?_;simp;refine .trans (.nA (i:=8) (j:=0) (k:=1) au rfl rfl (by omega)) ?_;simp;refine .trans (.nA (i:=8) (j:=1) (k:=1) au rfl rfl (by omega)) ?_;simp;refine .Fv 6 [2,3,1,4,5,6,7,8,0] (by simp) (by decide) ?_;simp;refine .trans (.Ni [9]) ?_;simp[share,gy];have e1:(n.ak.length*16<=140737488355328)=True:=bl (by omega);have e2:(n.aq.length*16<=140737488355328)=True:=bl (by omega)
 have k1:¬n.ak=[]->n.kI=1:=fun h=>n.hI.resolve_right h
 have k2:¬n.aq=[]->n.kO=1:=fun h=>n.hO.resolve_right h
 have hL2:∀oI oO:Ob,AM.Reach Tryz.prog Γ (ygi (.ptr 14 0) (.ptr 7 0) (.list true 1 [.list false n.kI (n.ak.map .str),.list false n.kL (n.ai.map .str)]) (.int .i64 2) (.int .i64 0)
  (dj (.cells (AV.cells (cp n))) uK l8 l8 uH uG (.list false 1 (n.ak.map .str)) (.list false 1 (n.aq.map .str)) 0 ⟨[],[],[]⟩ none none (.row 3 hY [] none true false) [oI,oO,.cells (AV.cells (cp n))]) ⟨[],.norm,6,up⟩)
  (.back up (.ptr 6 0) (dj (.cells (AV.cells (cp n))) uK l8 l8 uH uG (.list false 1 (n.ak.map .str)) (.list false 1 (n.aq.map .str)) 0 (fF n) (da (da (da none n.ak) n.ai) n.aq) none (.row 3 hY [] none true false) [oI,oO,.cells (AV.cells (cp n))])):=by
  intro oI oO;refine .du 60 ?_;simp;refine .inLoop ?_;simp;refine N4 (fl:=false) n.ak n.hI (by omega) _ _ _ _ ⟨[],.norm,6,up⟩ 0 none n.ak (eR 0 n.ak) n.ak.length 0 (by omega) [] [] none (.inl rfl) (by simp) (by simp[getM]) (by simp) (by simp) ?_;refine .du 60 ?_;simp;refine .aT ?_;simp;refine .du 60 ?_;simp;refine .inLoop ?_;simp;refine N4 (fl:=false) n.ai n.hL (by omega) _ _ _ _ ⟨[],.norm,6,up⟩ 0 none (n.ak++n.ai) (eR 0 (n.ak++n.ai)) n.ai.length 0 (by omega) n.ak (eR 0 n.ak) (da none n.ak) (tW (.inl rfl) _) (by omega) (fun b hb=>Da _ _ _ (by omega)) (by simp) (by rw[J7];simp) ?_;refine .du 60 ?_;simp;refine .aT ?_;simp;have hg:=tW (tW (.inl rfl:(none:Option Nat)=none\/(none:Option Nat)=some 0) n.ak) n.ai;generalize da (da none n.ak) n.ai=gu at hg⊢
  have e3:((n.ak.length+n.ai.length+n.aq.length)*16<=140737488355328)=True:=bl (by omega);have e4:((n.ak.length+n.ai.length)*16<=140737488355328)=True:=bl (by omega)
  by_cases hO0:n.aq=[]
  ·rcases hg with rfl|rfl<;>(
    refine .du 60 ?_;simp;refine .eW 60 ?_
    simp[hO0,e4,hkO,tV,fF,dj]<;>exact .refl _)
  ·have m2:∀g,da g n.aq=some 0:=by intro g;cases h:n.aq<;>simp_all [da]
   rcases hg with rfl|rfl<;>(
    refine .du 60 ?_;simp;refine .eW 60 ?_
    simp[hO0,e3,bl (k2 hO0),m2,fF,dj]<;>(simp only[mj];exact .refl _))
 by_cases hI0:n.ak=[]
 ·by_cases hO0:n.aq=[]
  ·have m1:da none n.ak=none:=by rw[hI0];rfl
   have m2:da none n.aq=none:=by rw[hO0];rfl
   refine .eW 60 ?_;simp[hkI,hkO,e1,e2,hI0,hO0];refine .trans (.mM (i:=6) 0 rfl) ?_;simp[gy,share];refine .trans (.mM (i:=6) 1 rfl) ?_;simp[gy,share];refine .inLoop ?_;simp;have hh:=hL2 (.row 1 au (n.ak.map .str) none true true) (.row 1 au (n.aq.map .str) none true true);simp[hI0,hO0,m1,m2,tV]at hh⊢;exact hh
  ·have m1:da none n.ak=none:=by rw[hI0];rfl
   have m2:da none n.aq=some 0:=by cases h:n.aq<;>simp_all [da]
   refine .eW 60 ?_;simp[hkI,hkO,e1,e2,hI0,hO0,bl (k2 hO0)];refine .trans (.mM (i:=6) 0 rfl) ?_;simp[gy,share];refine .trans (.mM (i:=6) 1 rfl) ?_;simp[gy,share];refine .inLoop ?_;simp;have hh:=hL2 (.row 1 au (n.ak.map .str) none true true) (.row 1 au (n.aq.map .str) (some 0) true true);simp[hI0,hO0,m1,m2,tV]at hh⊢;exact hh
 ·by_cases hO0:n.aq=[]
  ·have m1:da none n.ak=some 0:=by cases h:n.ak<;>simp_all [da]
   have m2:da none n.aq=none:=by rw[hO0];rfl
   refine .eW 60 ?_;simp[hkI,hkO,e1,e2,hI0,hO0,bl (k1 hI0)];refine .trans (.mM (i:=6) 0 rfl) ?_;simp[gy,share];refine .trans (.mM (i:=6) 1 rfl) ?_;simp[gy,share];refine .inLoop ?_;simp;have hh:=hL2 (.row 1 au (n.ak.map .str) (some 0) true true) (.row 1 au (n.aq.map .str) none true true);simp[hI0,hO0,m1,m2,tV]at hh⊢;exact hh
  ·have m1:da none n.ak=some 0:=by cases h:n.ak<;>simp_all [da]
   have m2:da none n.aq=some 0:=by cases h:n.aq<;>simp_all [da]
   refine .eW 60 ?_;simp[hkI,hkO,e1,e2,hI0,hO0,bl (k1 hI0),bl (k2 hO0)];refine .trans (.mM (i:=6) 0 rfl) ?_;simp[gy,share];refine .trans (.mM (i:=6) 1 rfl) ?_;simp[gy,share];refine .inLoop ?_;simp;have hh:=hL2 (.row 1 au (n.ak.map .str) (some 0) true true) (.row 1 au (n.aq.map .str) (some 0) true true);simp[hI0,hO0,m1,m2,tV]at hh⊢;exact hh
end
theorem Xi{n:Md}(og:n.g.Ok):∀k i:Nat,i+k=n.g.ands.length->∀x:Ra,mN x (2*(n.g.first+i)) (3*i)->mN (jq n.g.first (n.g.ands.drop i) i x) (2*(n.g.first+n.g.ands.length)) (3*n.g.ands.length):=by
 intro k
 induction k with
 |zero=>
  intro i hi x h
  obtain rfl:i=n.g.ands.length:=by omega
  rw[uR,jq];exact h
 |succ k ih=>
  intro i hi x h
  have q1:i<n.g.ands.length:=by omega
  obtain⟨⟨b1,b2⟩,b3,b4⟩:=og.ands i q1;rw[br q1,jq];have f1:=h.aP (a:=n.g.ands[i].1.toNat) (by omega);have f2:=f1.aP (a:=n.g.ands[i].2.toNat) (by omega);have f3:=f2.make (a:=2*(n.g.first+i)) (.both n.g.ands[i].1.toNat n.g.ands[i].2.toNat) (B':=2*(n.g.first+(i+1))) (by omega) (by omega);exact ih (i+1) (by omega) _ (by rw[show 3*(i+1)=3*i+1+1+1 by omega];exact f3)
set_option maxRecDepth 8000 in
theorem aac(hΓ:lU Γ)(hP:mY Γ)(n:Md)(ok:gG n)(hs:n.g.strict=true)(hCB:w6 (aY n))(gu:Option Nat)(hu:gu=none\/gu=some 0):
 aB Tryz.prog Γ (Pg (.ptr 0 0) (.ptr 1 0) (.ptr 6 0) (iN n.g.first) (.list false n.g.ka (n.g.ands.map cy)) (.int .i64 n.g.ands.length) (.int .i64 0) (dj (.cells (AV.cells (cp n))) uK l8 l8 uH uG (.list false 1 (n.ak.map .str)) (.list false 1 (n.aq.map .str)) 0 (fF n) gu none (uv [] none) []))
  (.ret (.aL [dT (if(fY (aY n)).1=0 then aY n else eY),.int .i64 (if(fY (aY n)).1=0 then 0 else 8)])):=by
 obtain⟨o,_,_⟩:=pX hs;obtain⟨V,ts,D⟩:=Gf ok hs;have h1:=ok.lI;have h2:=ok.lL;have h3:=ok.lO;have h4:=o.sum;have h5:=o.eT
 have hfi:=ok.first
 have hC:=Yk hΓ (aY n) hCB
 have H:fZ (.cells (AV.cells (cp n))) uK l8 l8 uH uG (.list false 1 (n.ak.map .str)) (.list false 1 (n.aq.map .str)) (uv [] none) []:=
  ⟨fun k hk=>by simp;omega,fun k hk=>by simp,fun k hk=>rfl⟩
 have F0:mN (fF n) (2*(n.g.first+0)) (3*0):=by
  refine⟨by simp[fF],by simp[fF];omega,fun b hb=>?_⟩;simp only[fF];refine Da _ _ _ ?_;simp only[bp]at hfi⊢;omega
 have F1:=Xi o n.g.ands.length 0 (by omega) (fF n) F0;rw[dV]at F1
 have hgl:(cR n).1.af.length<=40000:=by
  have h6:=D.NQ;have h7:(aY n).af.length=(cR n).1.af.length+(ep n (cR n).1.ar n.aq n.g.outs).length:=bp;omega
 refine acA hP n o H 0 (l0 n) (fun gu gg hu hg=>?_) n.g.ands.length 0 (by omega) (fF n) gu none hu (.inl rfl) F0 (by rw[dV];rfl);refine .go 60 ?_;simp;refine .inLoop ?_;simp;refine acx hP n o h2 H (cR n).1 (cR n).2 (fun gu gg gl hu hg hl=>?_) n.ai.length 0 (by omega) (l0 n) [] gu gg none hu hg (.inl rfl) F1 rfl (by simp[cR]) (by simp[cR]);refine .go 60 ?_;simp;refine .inLoop ?_;simp;refine acn n o (by omega) (by omega) h3 (H.Pp (cR n).2 gl) (cR n).2.length (cR n).1.ar (cR n).1.used (aY n).af (fun gu gg hu hg=>?_) n.aq.length 0 (by omega) (cR n).1.af gu gg hu hg (by omega) (by rw[dV,dV];rfl);have e1:(aY n).ak=n.ak:=rfl;have e2:(aY n).aq=n.aq:=rfl;have e3:(aY n).ai=(cR n).2:=rfl;have e4:(aY n).kI=1/\(aY n).kO=1/\(aY n).kL=3/\(aY n).kG=5:=⟨rfl,rfl,rfl,rfl⟩
 rcases hg with rfl|rfl<;>rcases hl with rfl|rfl
 all_goals
  refine .go 60 ?_;simp;refine .call 60 (by simp[e1,e2,e3,e4]) hC ?_
  by_cases hc0:(fY (aY n)).1=0
  ·simp[hc0];exact .back (by simp[e1,e2,e3,e4])
  ·simp[hc0];exact .back (by simp[eY])
set_option maxRecDepth 8000 in
theorem Em(hΓ:lU Γ)(hP:mY Γ)(m:Md)(hb:mb m):aN Tryz.prog Γ lq [cp m] (.aL [dT (ig m).1,.int .i64 (ig m).2]):=by
 have hN:=DI (Γ:=Γ) m hb;refine .run 60 Ta (by simp) ?_;unfold ig
 by_cases h0:cO m=0
 ·have hn:fL m=(cB m,0):=by unfold fL;rw[if_pos h0]
  rw[hn]at hN;rw[if_pos h0];simp;refine .call 60 (by simp) hN ?_;simp;obtain⟨ok,hs2,hCB,_⟩:=Lz h0;obtain⟨o,_,_⟩:=pX hs2;have h1:=ok.lI;have h2:=ok.lL;have h3:=ok.lO;have h4:=o.sum;have h5:=o.eT;have hB:=YD (Γ:=Γ) (cB m) (by omega) (by omega) (by omega);have hu:=tW (tW (tW (.inl rfl:(none:Option Nat)=none\/(none:Option Nat)=some 0) (cB m).ak) (cB m).ai) (cB m).aq;have key:=aac hΓ hP (cB m) ok hs2 hCB _ hu;generalize da (da (da none (cB m).ak) (cB m).ai) (cB m).aq=gu at hu hB key
  have ef:1+(cB m).g.ins+(cB m).g.next.length=((cB m).g.first:Int):=by unfold Gr.first;omega
  have hbl:=Nd 12 (eR 0 ((cB m).ak++(cB m).ai));refine .dE 60 hB ?_;simp(disch:=omega) [ef];refine .inLoop ?_;simp;refine .drop 12 rfl (by simp) (by simp) (by simp[fF,hbl]) ?_
  have e5:(if(fY (aY (cB m))).1=0 then(aY (cB m),(0:Int))else(eY,8)).1=if(fY (aY (cB m))).1=0 then aY (cB m)else eY:=by split<;>rfl
  have e6:(if(fY (aY (cB m))).1=0 then(aY (cB m),(0:Int))else(eY,8)).2=if(fY (aY (cB m))).1=0 then 0 else 8:=by split<;>rfl
  rw[e5,e6];simp at key⊢;exact key
 ·have hn:fL m=(j_,cO m):=by unfold fL;rw[if_neg h0]
  rw[hn]at hN;rw[if_neg h0];simp;refine .call 60 (by simp) hN ?_;simp[h0,j_,kW];exact .back (by simp[eY])
end Go.Proofs.YtchjijfjidlpjaaGreatDoor
namespace Go.Proofs.YtchjijfjidlpjaaGreatDoor
open Go.AM Go.Proofs Go.ChangeShapes Go.WideShapes Go.ChangeAt Go.RowKit
theorem own:ownKnob Tryz.prog.godebug=none:=by kernel_rfl
theorem laid:laidOutB Tryz.prog=true:=by kernel_rfl
theorem abF:mapsRowed Tryz.prog=true:=by kernel_rfl
def FB:List (Lit×DataW Unit):=match(Rows.laid_patchbay_net_ins:DataW Unit)with
 |.map D=>D
 |_=>[]
theorem Zw:(Rows.laid_patchbay_net_ins:DataW Unit)=.map FB:=by kernel_rfl
def wF:List (AV×AV):=[(.int .i64 0,p2 0 0),(.int .i64 1,p2 0 0),(.int .i64 2,p2 1 1),(.int .i64 3,p2 1 1),(.int .i64 4,p2 2 8),(.int .i64 5,p2 2 8),(.int .i64 6,p2 2 8),(.int .i64 7,p2 2 8),(.int .i64 8,p2 2 8),(.int .i64 9,p2 2 8),(.int .i64 10,p2 0 8)]
theorem ZC:(FB.map fun d=>(nG d.1,nH d.2))=wF:=by kernel_rfl
theorem abT:Tryz.prog.globalNamed "patchbay/net.ins" =some 1:=by kernel_rfl
theorem acv:(Tryz.prog.globals[1]?).map (·.type)=some 219:=by kernel_rfl
theorem acf:Tryz.prog.underlying 219=some (.map 63 62):=by kernel_rfl
theorem u37:Tryz.prog.underlying 63=some (.int .i64):=by kernel_rfl
theorem u74:Tryz.prog.underlying 62=some (.array 2 3):=by kernel_rfl
theorem u3:Tryz.prog.underlying 3=some (.int .i64):=by kernel_rfl
theorem u4:Tryz.prog.underlying 4=some .bool:=by kernel_rfl
theorem acp:(Tryz.prog.globals[4]?).map (·.type)=some 284:=by kernel_rfl
theorem ach:Tryz.prog.underlying 284=some (.array 20 272):=by kernel_rfl
theorem acy:Tryz.prog.underlying 272=some (.int .u64):=by kernel_rfl
theorem ZE:(Rows.laid_internal_strconv_uint64pow10:DataW Unit)=Lib.tabData .u64 Lib.pow10Tab:=by kernel_rfl
abbrev abb:Nat:=2
theorem Mr(g:G)(h:List Ob):∀zs:List Int,VL g h (zs.map fun z=>AV.int .u64 z) (zs.map fun z=>Value.int .u64 z)
 |[]=>by simp[VL]
 |z::zs=>by
  simp only[cv,VL];exact⟨_,_,rfl,by simp[V],Mr g h zs⟩
theorem K3(n:Nat):∀zs:List Int,aO n (zs.map fun z=>AV.int .u64 z)=true
 |[]=>rfl
 |z::zs=>by simp[K3 n zs]
theorem Z9{zs ws:List Int}(h:(AV.agg (zs.map fun z=>AV.int .u64 z))=.agg (ws.map fun z=>AV.int .u64 z)):zs=ws:=by
 simp only[AV.agg.injEq]at h;exact(List.map_inj_right (fun x y e=>by simpa using e)).1 h
theorem X3{W:World}{l:List (String×DataW Unit)}(h:laidMetH Tryz.prog l W)(hn:(l.all fun x=>x.2.handleName?.isNone)=true)(hm:("internal/strconv.uint64pow10",(Lib.tabData .u64 Lib.pow10Tab:DataW Unit))∈l):
 ∃t q,W.heap[4]? =some (Obj.cells (Lib.pow10Tab.map fun z=>Value.int .u64 z).toArray t q):=by
 rw[MakeChecks.laidMetH_plain _ _ _ hn]at h;obtain⟨ps,hL,_⟩:=h;obtain⟨g,t,cs,fuel,p,h1,h2,h3,h4⟩:=Ea hL _ _ hm;obtain rfl:=Option.some.inj (Ex.symm.trans h1);obtain rfl:=Option.some.inj (acp.symm.trans h2);have e:=Lib.cells_of_tab ach acy (by kernel_rfl) (by kernel_rfl) h4;unfold World.var? at h3;rw[Ex]at h3;simp only[jb]at h3
 split at h3
 ·rename_i cs' t' q' hh
  cases h3
  refine⟨t',q',?_⟩;rw[hh,<-e]
 ·cases h3
theorem XR{W:World}(h:laidMetH Tryz.prog Rows.raiseMeansRow.laid W):∃Γ:Nat->Option AV,(lU Γ/\mY Γ)/\(∀n a,Γ n=some a->aO 0 a.cells=true/\∃vs,VL (gw W) [] a.cells vs/\∀j(hj:j<vs.length),W.cell? ⟨n,j,none⟩=some vs[j])/\
 ∀N:Env,N.K=(fun b=>W.heap[b]?)->FH Γ N:=by
 obtain⟨ks,us,h1,h2,z,hz,hm⟩:=YC (JI h) (by kernel_rfl) (name:= "patchbay/net.ins") (D:=FB) (by
  rw[<-Zw]
  refine dh.2 ⟨dm _ (dm _ (dm _ (dm _ (oh ..)))),by kernel_rfl⟩) abT acv acf
  (fun v q hq=>by obtain⟨a,b,_⟩:=Zr u37 (g:=gw W) (h:=[]) hq;exact⟨a,b⟩) (fun n v x hf ht=>XU u74 u3 (by kernel_rfl) (by kernel_rfl) hf ht)
 obtain⟨tt,tq,hpow⟩:=X3 (JI h) (by kernel_rfl) (by
  rw[<-ZE]
  refine dh.2 ⟨dm _ (dm _ (oh ..)),by kernel_rfl⟩)
 have hcase:∀n m:Int,(bU (.sc .int) (.int .i64 n) (.int .i64 m)=some true/\AV.int .i64 n=.int .i64 m)\/(bU (.sc .int) (.int .i64 n) (.int .i64 m)=some false/\AV.int .i64 n≠.int .i64 m):=by
  intro n m
  by_cases hnm:n=m
  ·exact .inl ⟨by simp[bU,eD,hnm],by rw[hnm]⟩
  ·exact .inr ⟨by simp[bU,eD,hnm],by simp[hnm]⟩
 refine⟨fun n=>if n=1 then some (.de ks us)else if n=4 then some (.agg (Lib.pow10Tab.map fun z=>AV.int .u64 z))else none,⟨⟨ks,us,rfl,fun n=>?_⟩,rfl⟩,fun n a hn=>?_,fun N hN n zs hzs hn=>?_⟩
 ·rw[hz];rw[ZC]at hm
  obtain⟨r,e1,e2,e3⟩:=I3 (.sc .int) (.int .i64 n) z (by
   intro y hy;have hy2:=(hm y).1 hy;simp only[wF,bw,mr,mi]at hy2
   rcases hy2 with rfl|rfl|rfl|rfl|rfl|rfl|rfl|rfl|rfl|rfl|rfl<;>exact hcase _ _)
  rw[e1];unfold Fy
  cases r with
  |some v=>
   have hv:=(hm _).1 (e3 v rfl);simp only[wF,bw,mr,mi,bH,AV.int.injEq,uT]at hv
   rcases hv with⟨rfl,rfl⟩|⟨rfl,rfl⟩|⟨rfl,rfl⟩|⟨rfl,rfl⟩|⟨rfl,rfl⟩|⟨rfl,rfl⟩|⟨rfl,rfl⟩|⟨rfl,rfl⟩|⟨rfl,rfl⟩|⟨rfl,rfl⟩|⟨rfl,rfl⟩<;>rfl
  |none=>
   have hno:∀y∈wF,¬(AV.int .i64 n=y.1):=fun y hy=>e2 rfl y ((hm y).2 hy)
   simp only[wF,bw,mr,mi,HV,forall_eq,AV.int.injEq,uT]at hno;rw[if_neg (by omega),if_neg (by omega),if_neg (by omega),if_neg (by omega)]
 ·simp only at hn
  split at hn
  ·rename_i h0
   cases hn
   subst h0;exact⟨h1,h2⟩
  ·split at hn
   ·rename_i h0
    cases hn
    subst h0;refine⟨K3 0 _,_,Mr _ _ _,fun j hj=>?_⟩
    have hj2:j<Lib.pow10Tab.length:=by simpa using hj
    have hc:W.cell? ⟨4,j,none⟩=((Lib.pow10Tab.map fun z=>Value.int .u64 z).toArray)[j]? :=by simp[World.cell?,hpow]
    rw[hc];simp[hj2]
   ·cases hn
 ·simp only at hn
  split at hn
  ·cases hn
  ·split at hn
   ·rename_i h0;simp only[al]at hn;obtain rfl:=Z9 hn;subst h0;rw[hN];exact⟨tt,tq,hpow⟩
   ·cases hn
noncomputable def E7(os:Os):World:=
 {World.doorLaid Tryz.prog 4000 os with heap:=((World.doorLaid Tryz.prog 4000 os).heap.toList.zipIdx.map fun x=>if x.2=abb then(match x.1 with
  |.cells _ t q=>.cells (Go.Pinned.utf8FirstZ.map fun n:Nat=>Value.int .u8 (n:Int)).toArray t q
  |o=>o)else x.1).toArray}
theorem YM(os:Os)(args:Array Value):laidMetH Tryz.prog Rows.raiseMeansRow.laid ((E7 os).forCall (fun _ _=>0) ⟨#[],args,[]⟩).memory:=
 laidMetH_of_parts3 (fuel:=8) (laidMet_of_run' 8 (by kernel_rfl) (by kernel_rfl)) (by kernel_rfl) (by kernel_rfl)
abbrev wV:Sh:=.int .i64
abbrev AQ:Sh:=.list 1 false .str
theorem abW{B:Nat}{cs:List AV}(h:eE B wV cs):∃n:Int,cs=[.int .i64 n]:=by
 simp only[eE]at h;obtain⟨n,rfl,h1,h2⟩:=h;exact⟨n,rfl⟩
theorem D_{B:Nat}{cs:List AV}(h:eE B AQ cs):∃l:List (List UInt8),cs=[.list false 1 (l.map .str)]/\l.length<=B/\∀s∈l,s.length<=B:=by
 simp only[eE]at h;obtain⟨xs,rfl,h0,h1⟩:=h
 obtain⟨l,hl,hn⟩:=z_ (f:=me false) (e:=fun s:{s:List UInt8//s.length<=B}=>AV.str s.val) (fun x hx=>by
  obtain⟨⟨n,rfl,hb⟩,_⟩:=h1 x hx
  exact⟨⟨n,hb⟩,rfl⟩)
 refine⟨l.map (·.val),by rw[hl,lf];rfl,by rw[iB];omega,fun s hs=>?_⟩;obtain⟨x,_,rfl⟩:=db.1 hs;exact x.property
abbrev A5:Sh:=.list 1 false wV
abbrev N6:Sh:=.list 2 true (.parts [wV,wV])
abbrev acs:Sh:=.parts [wV,A5,A5,N6,A5]
abbrev NT:Sh:=.parts [acs,AQ,AQ,AQ]
theorem D7{B:Nat}{cs:List AV}(h:eE B A5 cs):∃l:List Int,cs=[.list false 1 (l.map i64)]/\l.length<=B:=by
 simp only[eE]at h;obtain⟨xs,rfl,h0,h1⟩:=h
 obtain⟨l,hl,hn⟩:=z_ (f:=me false) (e:=i64) (fun x hx=>by
  obtain⟨⟨n,rfl,_⟩,_⟩:=h1 x hx
  exact⟨n,rfl⟩)
 exact⟨l,by rw[hl],by omega⟩
theorem Wp{B:Nat}{cs:List AV}(h:eE B N6 cs):∃l:List (Int×Int),cs=[.list false 2 (l.map cy)]/\l.length<=B:=by
 rw[eE]at h;obtain⟨xs,rfl,h0,h1⟩:=h
 obtain⟨l,hl,hn⟩:=z_ (f:=me true) (e:=cy) (fun x hx=>by
  have h2:=(h1 x hx).1;simp only[eE,qz]at h2;obtain⟨_,_,rfl,⟨n,rfl,_⟩,_,_,rfl,⟨m,rfl,_⟩,rfl⟩:=h2
  exact⟨⟨n,m⟩,rfl⟩)
 exact⟨l,by rw[hl],by omega⟩
theorem abd{B:Nat}{cs:List AV}(h:eE B NT cs):∃m:Md,AV.agg cs=cp m/\(B<2^30->mb m):=by
 rw[eE]at h;simp only[qz]at h;obtain⟨_,_,rfl,hg,_,_,rfl,h1,_,_,rfl,h2,_,_,rfl,h3,rfl⟩:=h;rw[eE]at hg;simp only[qz]at hg;obtain⟨_,_,rfl,g1,_,_,rfl,g2,_,_,rfl,g3,_,_,rfl,g4,_,_,rfl,g5,rfl⟩:=hg;obtain⟨n,rfl⟩:=abW g1;obtain⟨a,rfl,la⟩:=D7 g2;obtain⟨b,rfl,lb⟩:=D7 g3;obtain⟨c,rfl,lc⟩:=Wp g4;obtain⟨d,rfl,ld⟩:=D7 g5;obtain⟨i,rfl,li,_⟩:=D_ h1;obtain⟨l,rfl,ll,_⟩:=D_ h2;obtain⟨o,rfl,lo,_⟩:=D_ h3;exact⟨⟨⟨n,a,b,c,d,1,1,2,1,.self,.self,.self,.self⟩,i,l,o,1,1,1,.self,.self,.self⟩,rfl,fun hB=>⟨⟨by simp only;omega,by simp only;omega,by simp only;omega,by simp only;omega⟩,by simp only;omega,by simp only;omega,by simp only;omega⟩⟩
theorem Y2{H:Type}(d:DataW H):1<=Rows.uptoBulk d:=by
 cases d with
 |lit l=>cases l<;>simp[Rows.uptoBulk]
 |_=>simp[Rows.uptoBulk]
theorem LA{H:Type}:∀ds:List (DataW H),ds.length<=Rows.uptoBulkAll ds
 |[]=>by simp
 |d::ds=>by have:=LA ds;have:=Y2 d;simp only[bC,Rows.uptoBulkAll];omega
theorem zK{H:Type}:∀{ds:List (DataW H)}{d:DataW H},d∈ds->Rows.uptoBulk d<=Rows.uptoBulkAll ds
 |e::ds,d,h=>by
  simp only[Rows.uptoBulkAll]
  rcases bw.1 h with rfl|h
  ·omega
  ·have:=zK h;omega
def Small{H:Type}(d:DataW H):Prop:=Rows.uptoBulk d<=1048576
theorem abJ{H:Type}:Down (H:=H) 1048576 Small:=by
 refine⟨fun e r h _=>?_,fun ps h d hd=>?_,fun b h _=>?_⟩
 ·simp only[Small,Rows.uptoBulk]at h;refine⟨by have:=LA e;omega,fun d hd=>?_⟩;have:=zK hd
  simp only[Small];omega
 ·simp only[Small,Rows.uptoBulk]at h⊢;have:=zK hd;omega
 ·simp only[Small,Rows.uptoBulk]at h;omega
theorem XM{H:Type}{ds gs:List (DataW H)}(hk:Rows.uptoSmall H (ds++gs)=true):∀d∈ds,Small d:=by
 intro d hd;have h:=of_decide_eq_true hk;have:=zK (jJ gs hd)
 simp only[Small];omega
end Go.Proofs.YtchjijfjidlpjaaGreatDoor
namespace Go.Proofs.YtchjijfjidlpjaaGreatDoor
open Go.AM Go.Proofs
variable{Γ:Nat->Option AV}
theorem Jk(l:List Bs){k:Nat}(hk:Kd 1 k l)(hl:l.length<2^40):aN Tryz.prog Γ sZ [.list false k (l.map .str)] (.bool (!mc l)):=by
 have key:∀n i:Nat,i+n=l.length->aB Tryz.prog Γ (ysL (.list false k (l.map .str)) (.int .i64 i) []) (.ret (.bool (!(iG (l.take i) (l.drop i)).isSome))):=by
  intro n
  induction n with
  |zero=>
   intro i hi
   have q1:¬i<l.length:=by omega
   rw[bq (by omega),iG];refine .go 60 ?_;simp[q1];exact .back (by simp)
  |succ n ih=>
   intro i hi
   have q1:i<l.length:=by omega
   have q2:=bl (hk.of q1)
   have q3:i<=l.length:=by omega
   have hh:=ih (i+1) (by omega);have hH:=Ke (Γ:=Γ) (l.take i) l[i] (k:=k) (.inl (hk.of q1)) (by rw[fc];omega);rw[To]at hH;rw[br q1,iG];rw[pN q1]at hh;refine .go 60 ?_;simp[q1,q2,q3];refine .dr 60 ?_;simp[q1,q2,q3]
   by_cases hm:l[i]∈l.take i
   ·rw[xz hm]at hH;refine .call (by simp) hH ?_;simp[hm];exact .back (by simp)
   ·rw[HZ hm]at hH;refine .call (by simp) hH ?_;simp[hm];refine .aT ?_;simp(disch:=omega) [hm]at hh⊢;exact hh
 have hh:=key l.length 0 (by omega);refine .run 60 U2 (by simp) ?_;simp;refine .inLoop ?_;simp[mc,jn]at hh⊢;exact hh
theorem Jz(m:Md)(hI:m.ak.length<2^30)(hL:m.ai.length<2^30):aN Tryz.prog Γ vz [cp m] (.own 1 au ((m.ak++m.ai).map .str)):=by
 have h1:m.kI=1\/m.ak=[]:=m.hI;have h2:m.kL=1\/m.ai=[]:=m.hL;refine .run 60 UB (by simp) ?_
 have hbd:(m.ak.length+m.ai.length)*16<=140737488355328:=by omega
 by_cases hq:m.ak=[]
 ·by_cases hr:m.ai=[]
  ·simp[hq,hr];exact .back (by simp)
  ·have h2':m.kL=1:=h2.resolve_right hr;simp[hq]at hbd;simp(disch:=omega) [h2',hq,hr,hbd];exact .back (by simp)
 ·have h1':m.kI=1:=h1.resolve_right hq
  by_cases hr:m.ai=[]
  ·simp[hr]at hbd;simp(disch:=omega) [h1',hq,hr,hbd];exact .back (by simp)
  ·have h2':m.kL=1:=h2.resolve_right hr;simp(disch:=omega) [h1',h2',hq,hr,hbd];exact .back (by simp)
theorem I7(m:Md)(s:Bs)(hI:m.ak.length<2^30)(hL:m.ai.length<2^30):aN Tryz.prog Γ sV [cp m,.str s] (.int .i64 (cA m s)):=by
 have hN:=Jz (Γ:=Γ) m hI hL
 have key:∀n i:Nat,i+n=(m.ak++m.ai).length->aB Tryz.prog Γ (yiz (.str s) (.sl 1 0 (m.ak++m.ai).length) (.int .i64 i) [.cells (AV.cells (cp m)),.row 1 au ((m.ak++m.ai).map .str) none true false]) (.ret (.int .i64 (if ee s ((m.ak++m.ai).drop i) i<0 then-1 else ee s ((m.ak++m.ai).drop i) i+1))):=by
  intro n
  induction n with
  |zero=>
   intro i hi
   have q1:¬i<(m.ak++m.ai).length:=by omega
   rw[bq (by omega)];generalize m.ak++m.ai=l at*;refine .go 60 ?_;simp[q1,ee];exact .back (by simp)
  |succ n ih=>
   intro i hi
   have q1:i<(m.ak++m.ai).length:=by omega
   have hlen:(m.ak++m.ai).length<2^31:=by simp;omega
   have hh:=ih (i+1) (by omega);generalize m.ak++m.ai=l at*;rw[br q1];refine .go 60 ?_
   by_cases he:l[i]=s
   ·have q9:¬((i:Int)<0):=by omega
    simp(disch:=omega) [q1,he,ee,q9];exact .back (by simp)
   ·have he2:¬s=l[i]:=fun h=>he h.symm
    simp[q1,he,he2,ee];refine .aT ?_;simp(disch:=omega) [he,he2]at hh⊢;exact hh
 have hh:=key (m.ak++m.ai).length 0 (by omega);unfold cA;rw[dV]at hh;refine .run 60 TP (by simp) ?_;simp;refine .call 60 (by simp) hN ?_;simp;refine .inLoop ?_;simp at hh⊢;exact hh
set_option maxHeartbeats 2000000 in
set_option maxRecDepth 8000 in
theorem Vx(a b:Gr)(ha:a.dJ):aN Tryz.prog Γ vE [cg a,cg b] (.bool (dN a b)):=by
 have f1:=ha.1;have f2:=ha.2.1;have f3:=ha.2.2.1;have f4:=ha.2.2.2
 refine .run 60 US (by simp) ?_;unfold dN
 by_cases h1:a.ins=b.ins
 ·have h1':=bl h1;simp[h1'];refine .call 60 (by simp) (CW a.next b.next a.hn b.hn (by omega)) ?_
  by_cases h2:a.next=b.next
  ·have h2':=bl h2;simp[h2'];refine .call 60 (by simp) (CW a.init b.init a.hi b.hi (by omega)) ?_
   by_cases h3:a.init=b.init
   ·have h3':=bl h3;simp[h3'];refine .call 60 (by simp) (CW a.outs b.outs a.ho b.ho (by omega)) ?_
    by_cases h4:a.outs=b.outs
    ·have h4':=bl h4
     by_cases h5:a.ands.length=b.ands.length
     ·have key:∀n i:Nat,i+n=a.ands.length->aB Tryz.prog Γ (ylL (.ptr 0 0) (.ptr 1 0) (.int .i64 i) [jo a,jo b]) (.ret (.bool (decide (a.ands.drop i=b.ands.drop i)))):=by
       intro n
       induction n with
       |zero=>
        intro i hi;refine .go 60 ?_
        have q1:¬i<a.ands.length:=by omega
        have q2:a.ands.drop i=b.ands.drop i:=by rw[bq (by omega),bq (by omega)]
        simp[q1,q2];exact .back (by simp)
       |succ n ih=>
        intro i hi
        have q1:i<a.ands.length:=by omega
        have q2:i<b.ands.length:=by omega
        have k1:=bl (a.ha.of q1);have k2:=bl (b.ha.of q2);have q4:=drop_eq q1 q2;have q5:=JH a.ands[i].1 a.ands[i].2 b.ands[i].1 b.ands[i].2;refine .go 60 ?_
        by_cases q3:a.ands[i]=b.ands[i]
        ·have q6:((a.ands[i].1,a.ands[i].2)=(b.ands[i].1,b.ands[i].2))=True:=bl q3;have q7:(a.ands[i]=b.ands[i])=True:=bl q3;simp(disch:=omega) [q1,q2,k1,k2,q7,q4,q5,q6,-Prod.mk.injEq];refine .aT ?_;have hh:=ih (i+1) (by omega);simp at hh⊢;exact hh
        ·have q6:((a.ands[i].1,a.ands[i].2)=(b.ands[i].1,b.ands[i].2))=False:=gq q3;simp(disch:=omega) [q1,q2,k1,k2,q3,q4,q5,q6,-Prod.mk.injEq];exact .back (by simp)
      have h5':=bl h5;simp[h4',h5'];refine .inLoop ?_;have hh:=key a.ands.length 0 (by omega);simp at hh⊢;exact hh
     ·have h6:¬a.ands=b.ands:=fun e=>h5 (by rw[e])
      simp[h4',h5,h6];exact .back (by simp)
    ·simp[h4];exact .back (by simp)
   ·simp[h3];exact .back (by simp)
  ·simp[h2];exact .back (by simp)
 ·simp[h1];exact .back (by simp)
theorem q_(to:List Nat)(hto:∀x∈to,x<2^40)(a:Nat)(h1:a/2<to.length)(ha:(a:Int)<2^60):aN Tryz.prog Γ pR [.list false 1 (to.map iN),.int .i64 a] (.int .i64 (aX to a)):=by
 refine .run 60 Tw (by simp) ?_
 have h3:((a/2:Nat):Int)<to.length:=by omega
 have h4:=hto _ (bZ h1)
 have h5:to.getD (a/2) 0=to[a/2]:=by rw[bz,a_ h1];rfl
 have h6:=NV to[a/2] (by omega);unfold aX;rw[h5]
 rcases(show a%2=0\/a%2=1 by omega)with h2|h2
 ·have h7:((a:Int)%2=1)=False:=gq (by omega);rw[h2,Cd];simp(disch:=omega) [-Int.natCast_ediv,-Int.natCast_emod,h1,h3,h2,h7];exact .back (by simp)
 ·have h7:((a:Int)%2=1)=True:=bl (by omega);rw[h2];simp(disch:=omega) [-Int.natCast_ediv,-Int.natCast_emod,h1,h3,h2,h6,h7];exact .back (by simp)
set_option maxRecDepth 8000 in
theorem sN(to:List Nat)(hto:∀x∈to,x<2^40)(l:List Int){k:Nat}(hk:Kd 1 k l)(hl:l.length<2^40)(hlt:∀a∈l,0<=a/\a<2*to.length)(hbt:to.length<2^40):
 aN Tryz.prog Γ pP [.list false 1 (to.map iN),.list false k (l.map i64)] (.own 1 az ((cd to l).map iN)):=by
 refine .run 60 SZ (by simp) ?_
 have key:∀n j:Nat,j+n=l.length->∀w,w=cd to (l.take j)->aB Tryz.prog Γ (yud (.list false 1 (to.map iN)) (.list false k (l.map i64)) (.sl 1 0 w.length) (.int .i64 j)
  [.row 1 az [] none true false,.row 1 az (w.map iN) none true false]) (.ret (.own 1 az ((cd to l).map iN))):=by
  intro n
  induction n with
  |zero=>
   intro j hj w hw
   have q1:¬j<l.length:=by omega
   rw[cF (by omega)]at hw;subst hw;refine .go 60 ?_;simp[q1];exact .back (by simp)
  |succ n ih=>
   intro j hj w hw
   have q1:j<l.length:=by omega
   have q2:=bl (hk.of q1);obtain⟨a1,a2⟩:=hlt l[j] (bZ q1);obtain⟨x,hx⟩:=cS a1
   have hwl:w.length=j:=by rw[hw];simp;omega
   have hc:=q_ (Γ:=Γ) to hto x (by omega) (by omega);have hh:=ih (j+1) (by omega) _ rfl;rw[Dv q1,<-hw,hx]at hh;simp only[cZ]at hh;refine .go 60 ?_;simp(disch:=omega) [q1,q2,hx];refine .call 60 (by simp) hc ?_;simp(disch:=(first|omega|(simp;omega))) [q1,q2];refine .aT ?_;simp;refine .reset (i:=1) rfl (by simp) (by simp) (by simp) ?_;simp at hh⊢;exact hh
 simp;refine .inLoop ?_;simp;have hh:=key l.length 0 (by omega) [] (by simp[cd]);simp at hh⊢;exact hh
theorem CT(l:List Bs){k:Nat}(hk:Kd 1 k l)(hl:l.length<2^40)(hS:∀s∈l,s.length<2^60):aN Tryz.prog Γ rh [.list false k (l.map .str)] (.bool (!aZ (fun s=>!dd s) l)):=by
 have key:∀n i:Nat,i+n=l.length->aB Tryz.prog Γ (ysx (.list false k (l.map .str)) (.int .i64 i) []) (.ret (.bool (!aZ (fun s=>!dd s) (l.drop i)))):=by
  intro n
  induction n with
  |zero=>
   intro i hi
   have q1:¬i<l.length:=by omega
   rw[bq (by omega)];refine .go 60 ?_;simp[q1,aZ];exact .back (by simp)
  |succ n ih=>
   intro i hi
   have q1:i<l.length:=by omega
   have q2:=bl (hk.of q1);have hh:=ih (i+1) (by omega);have hN:=UC (Γ:=Γ) l[i] (hS _ (bZ q1))
   have he:aZ (fun s=>!dd s) (l.drop i)=(!dd l[i]||aZ (fun s=>!dd s) (l.drop (i+1))):=by
    rw[br q1];rfl
   rw[he];generalize aZ (fun s=>!dd s) (l.drop (i+1))=r at*;refine .go 60 ?_;simp[q1,q2];refine .call 60 (by simp) hN ?_
   cases dd l[i]
   ·simp;exact .back (by simp)
   ·simp;refine .aT ?_;simp(disch:=omega)at hh⊢;exact hh
 have hh:=key l.length 0 (by omega);refine .run 60 TH (by simp) ?_;simp;refine .inLoop ?_;simp at hh⊢;exact hh
theorem Vr(a b:Md)(ha:mb a):aN Tryz.prog Γ y_ [cp a,cp b] (.bool (oW a b)):=by
 obtain⟨f,f1,f2,f3⟩:=ha;have h0:=Vx (Γ:=Γ) a.g b.g f;have h1:=pV (Γ:=Γ) a.ak b.ak a.hI b.hI (by omega);have h2:=pV (Γ:=Γ) a.ai b.ai a.hL b.hL (by omega);have h3:=pV (Γ:=Γ) a.aq b.aq a.hO b.hO (by omega);unfold oW;generalize dN a.g b.g=s0 at*;refine .run 60 Vm (by simp) ?_;simp;refine .call 60 (by simp) h0 ?_
 cases s0
 ·simp;exact .back (by simp)
 ·simp;refine .call 60 (by simp) h1 ?_
  by_cases c1:a.ak=b.ak
  ·simp[c1];refine .call 60 (by simp) h2 ?_
   by_cases c2:a.ai=b.ai
   ·simp[c2];refine .call 60 (by simp) h3 ?_;simp;exact .back (by simp)
   ·simp[c2];exact .back (by simp)
  ·simp[c1];exact .back (by simp)
set_option maxRecDepth 8000 in
theorem aaF(m:Md)(hI:m.ak.length<2^30)(hL:m.ai.length<2^30)(hO:m.aq.length=m.g.outs.length)(hl:m.g.outs.length<2^30)(tl:List Ob):∀n i:Nat,i+n=m.aq.length->
 aB Tryz.prog Γ (ykO (.ptr 0 0) (.int .i64 i) (.cells (AV.cells (cp m))::tl)) (.ret (.int .i64 (if nZ m (m.aq.drop i) (m.g.outs.drop i)=true then 5 else 0))):=by
 intro n
 induction n with
 |zero=>
  intro i hi
  have q1:¬i<m.aq.length:=by omega
  rw[bq (by omega),nZ]
  ·refine .go 60 ?_;simp[q1];exact .back (by simp)
  ·intro s l a r h;cases h
 |succ n ih=>
  intro i hi
  have q1:i<m.aq.length:=by omega
  have q3:i<m.g.outs.length:=by omega
  have q2:=bl (m.hO.of q1);have q4:=bl (m.g.ho.of q3);have hh:=ih (i+1) (by omega);have hP:=I7 (Γ:=Γ) m m.aq[i] hI hL;obtain⟨hp1,hp2⟩:=CB m m.aq[i];rw[br q1,br q3,nZ];generalize cA m m.aq[i]=p at*;refine .go 60 ?_;simp[q1,q2];refine .dr 60 ?_;simp[q1,q2]
  by_cases c1:0<=p
  ·by_cases c2:m.g.outs[i]=2*p
   ·refine .call (by simp) hP ?_;simp(disch:=omega) [c1,c2,q3,q4];refine .aT ?_;simp(disch:=omega) [c1,c2]at hh⊢;exact hh
   ·refine .call (by simp) hP ?_;simp(disch:=omega) [c1,c2,q3,q4];exact .back (by simp)
  ·refine .call (by simp) hP ?_;simp(disch:=omega) [c1];refine .aT ?_;simp(disch:=omega) [c1]at hh⊢;exact hh
set_option maxRecDepth 8000 in
theorem Uf(m:Md)(hb:mb m)(hS:∀s∈m.ak++m.ai++m.aq,s.length<2^60):aN Tryz.prog Γ vu [cp m] (.int .i64 (cO m)):=by
 obtain⟨f,f1,f2,f3⟩:=hb;have h0:=CG (Γ:=Γ) m.g f;obtain⟨g1,g2,g3,g4⟩:=f;have o1:=CT (Γ:=Γ) m.ak m.hI (by omega) (fun s hs=>hS s (by simp[hs]));have o2:=CT (Γ:=Γ) m.ai m.hL (by omega) (fun s hs=>hS s (by simp[hs]));have o3:=CT (Γ:=Γ) m.aq m.hO (by omega) (fun s hs=>hS s (by simp[hs]));have cc:=Jz (Γ:=Γ) m (by omega) (by omega);have t1:=Jk (Γ:=Γ) (m.ak++m.ai) (k:=1) .self (by simp;omega);have t2:=Jk (Γ:=Γ) m.aq m.hO (by omega);unfold cO;refine .run 60 Uj (by simp) ?_;simp;refine .call 60 (by simp) h0 ?_
 by_cases c0:m.g.check=0
 ·by_cases l1:(m.ak.length:Int)=m.g.ins
  ·by_cases l2:m.ai.length=m.g.next.length
   ·by_cases l3:m.aq.length=m.g.outs.length
    ·have hlm:gT m=false:=by simp[gT,l1,l2,l3]
     simp[c0,l1,l2,l3,hlm];refine .call 60 (by simp) o1 ?_;unfold A4
     cases aZ (fun s=>!dd s) m.ak
     ·simp;refine .call 60 (by simp) o2 ?_
      cases aZ (fun s=>!dd s) m.ai
      ·simp;refine .call 60 (by simp) o3 ?_
       cases aZ (fun s=>!dd s) m.aq
       ·simp;refine .call 60 (by simp) cc ?_;simp;have htk:(m.ak.map AV.str++m.ai.map AV.str).take (m.ak.length+m.ai.length)=m.ak.map AV.str++m.ai.map AV.str:=cF (by simp);simp only[nk]at t1;refine .call 60 (by simp[htk]) t1 ?_
        cases mc (m.ak++m.ai)
        ·simp;refine .call 60 (by simp) t2 ?_
         cases mc m.aq
         ·simp;refine .inLoop ?_;have hf:=aaF (Γ:=Γ) m f1 f2 l3 (by omega) [.row 1 au ((m.ak++m.ai).map .str) none true false] m.aq.length 0 (by omega);simp at hf⊢;exact hf
         ·simp;exact .back (by simp)
        ·simp;exact .back (by simp)
       ·simp;exact .back (by simp)
      ·simp;exact .back (by simp)
     ·simp;exact .back (by simp)
    ·have hlm:gT m=true:=by simp[gT,l1,l2,l3]
     simp[c0,l1,l2,l3,hlm];exact .back (by simp)
   ·have hlm:gT m=true:=by simp[gT,l1,l2]
    simp[c0,l1,l2,hlm];exact .back (by simp)
  ·have hlm:gT m=true:=by simp[gT,l1]
   simp[c0,l1,hlm];exact .back (by simp)
 ·simp[c0];exact .back (by simp)
end Go.Proofs.YtchjijfjidlpjaaGreatDoor
namespace Go.Proofs.YtchjijfjidlpjaaGreatDoor
open Go.AM Go.Proofs
def iP(first:Nat)(aE:List Bool):List (Int×Int)->Nat->List (Int×Int)->List Nat->List (Int×Int)×List Nat
 |[],_,l,to=>(l,to)
 |p::ps,i,l,to=>
  if aE.getD (first+i) false=true then iP first aE ps (i+1) (l++[gI (to++[2*(first+l.length)]) p]) (to++[2*(first+l.length)])
  else iP first aE ps (i+1) l (to++[2*(first+l.length)])
def Gr.closed(x:Gr):Gr:=x.dv (iP x.first x.aE x.ands 0 [] (ids x.first))
def ug(first:Nat)(aE:List Bool)(to2 to:List Nat):Prop:=to2.length=to.length/\∀n,n<to.length->Live first aE n->to2.getD n 0=to.getD n 0
theorem DA{first:Nat}{aE:List Bool}{to2 to:List Nat}(h:ug first aE to2 to){a:Nat}(ha:a/2<to.length)(hl:Live first aE (a/2)):aX to2 a=aX to a:=by
 unfold aX;rw[h.2 _ ha hl]
theorem ug.push{first:Nat}{aE:List Bool}{to2 to:List Nat}(h:ug first aE to2 to){c d:Nat}(hc:Live first aE to.length->c=d):ug first aE (to2++[c]) (to++[d]):=by
 have h1:=h.1;refine⟨by simp[h.1],fun n hn hl=>?_⟩
 by_cases h2:n<to.length
 ·rw[kv (by omega),kv h2,h.2 n h2 hl]
 ·have e:n=to.length:=by simp at hn;omega
  rw[vU (by omega),vU e];subst e;exact hc hl
theorem D8{first:Nat}{aE:List Bool}{ands:List (Int×Int)}(L:uh first aE ands):∀n i l to to2,i+n=ands.length->gb first aE ands i l to->ug first aE to2 to->
 (iP first aE (ands.drop i) i l to2).1=(c_ first aE (ands.drop i) i l to).1/\ug first aE (iP first aE (ands.drop i) i l to2).2 (c_ first aE (ands.drop i) i l to).2
 |0,i,l,to,to2,hi,h,ha=>by
  have:i=ands.length:=by omega
  subst this
  rw[uR,c_,iP];exact⟨rfl,ha⟩
 |n+1,i,l,to,to2,hi,h,ha=>by
  have h1:i<ands.length:=by omega
  have hlen:=h.len;rw[br h1,c_,iP]
  by_cases hl:aE.getD (first+i) false=true
  ·rw[if_pos hl,if_pos hl];obtain⟨e,n1,n2⟩:=h.new L h1 hl;obtain⟨c1,c2⟩:=L.c i h1 hl;have h1':=ha.1
   have en:gI (to2++[2*(first+l.length)]) ands[i]=gI to ands[i]:=by
    unfold gI;rw[qa (by omega),qa (by omega),DA ha (by omega) (.inr c1),DA ha (by omega) (.inr c2)]
   rw[e,en];exact D8 L n (i+1) _ _ _ (by omega) (h.push L h1 hl) (ha.push fun _=>rfl)
  ·rw[if_neg hl,if_neg hl];refine D8 L n (i+1) _ _ _ (by omega) (h.skip L h1 hl 0) (ha.push fun h2=>?_);exfalso;rw[hlen]at h2
   rcases h2 with h2|h2
   ·omega
   ·exact hl h2
theorem Wz{x:Gr}(ok:x.Ok)(s:eQ x.first x.ands):dN x.dR x.closed=true:=by
 have h:=D8 (Gr.Ns ok s) x.ands.length 0 [] (ids x.first) (ids x.first) (by omega) gb.zero ⟨rfl,fun _ _ _=>rfl⟩;rw[dV]at h;have I:=Gr.NX ok s
 have hb:∀a∈x.next++x.outs,aX (iP x.first x.aE x.ands 0 [] (ids x.first)).2 a.toNat=aX (c_ x.first x.aE x.ands 0 [] (ids x.first)).2 a.toNat:=fun a ha=>
  DA h.2 (by rw[I.len];exact aba ok ha) (.inr (Ec ok ha))
 have e1:cd (iP x.first x.aE x.ands 0 [] (ids x.first)).2 x.next=cd (c_ x.first x.aE x.ands 0 [] (ids x.first)).2 x.next:=
  pK fun a ha=>hb a (jJ _ ha)
 have e2:cd (iP x.first x.aE x.ands 0 [] (ids x.first)).2 x.outs=cd (c_ x.first x.aE x.ands 0 [] (ids x.first)).2 x.outs:=
  pK fun a ha=>hb a (sD _ ha)
 simp only[dN,Gr.dR,Gr.closed,Gr.dv,e1,e2,h.1,decide_true,uX]
end Go.Proofs.YtchjijfjidlpjaaGreatDoor
namespace Go.Proofs.YtchjijfjidlpjaaGreatDoor
open Go.AM Go.Proofs
variable{Γ:Nat->Option AV}
theorem Wg{l:List (Int×Int)}{i:Nat}(h:i<l.length):l.getD i (0,0)=l[i]:=by
 rw[bz,a_ h];rfl
theorem Jv{l:List Int}{i:Nat}(h:i<l.length)(v:List Bool):eC (l.take (i+1)) v=(eC (l.take i) v).set (l[i].toNat/2) true:=by
 rw[pN h,xU];rfl
abbrev hL(g:Gr)(v:List Bool):List Ob:=[jo g,.row 1 fW [] none true false,.row 1 fW (v.map .bool) none true false]
set_option maxHeartbeats 2000000 in
set_option maxRecDepth 8000 in
theorem ZB(g:Gr)(ok:g.Ok):∀c:Nat,c<=g.ands.length->∀v:List Bool,v.length=g.all->aB Tryz.prog Γ (yxw (.ptr 0 0) (.sl 2 0 g.all) (.int .i64 ((c:Int)-1)) (hL g v)) (.ret (.own 1 fW ((fv g.ands g.first c v).map .bool))):=by
 have o1:=ok.ins;have o3:=ok.sum
 have hall:g.all=g.first+g.ands.length:=rfl
 have hfb:g.first<=4001:=by unfold Gr.first;omega
 have hF:=mA (Γ:=Γ) g o1.1 o1.2 (by omega);intro c
 induction c with
 |zero=>
  intro hc v hv;rw[fv];refine .go 60 ?_;simp[hv];exact .back (by simp[<-hv])
 |succ c ih=>
  intro hc v hv
  have q1:c<g.ands.length:=by omega
  have q2:=bl (g.ha.of q1)
  have q3:((c+1:Nat):Int)-1=(c:Int):=by omega
  have q4:g.first+c<v.length:=by omega
  have q5:(g.first:Int)+c=((g.first+c:Nat):Int):=by simp
  have q6:g.first+c<g.all:=by omega
  obtain⟨⟨a1,a2⟩,a3,a4⟩:=ok.ands c q1;rw[q3,fv,Wg q1]
  have hg:v.getD (g.first+c) false=v[g.first+c]:=by rw[bz,a_ q4];rfl
  rw[hg];obtain⟨x,hx⟩:=cS a1;obtain⟨y,hy⟩:=cS a3
  have hxl:x/2<g.all:=by omega
  have hyl:y/2<g.all:=by omega
  have rx:(x:Int)/2=((x/2:Nat):Int):=by omega
  have ry:(y:Int)/2=((y/2:Nat):Int):=by omega
  have hv1:((v.map AV.bool).set (x/2) (.bool true))[y/2]? =some (.bool ((v.set (x/2) true).getD (y/2) false)):=by
   rw[show AV.bool true=(AV.bool) true from rfl,<-lj,jc,a_ (by simp;omega),bz,a_ (by simp;omega)];rfl
  refine .go 60 ?_;simp;refine .call 60 (by simp) hF ?_
  cases hb:v[g.first+c]with
  |true=>
   have hh:=ih (by omega) ((v.set (x/2) true).set (y/2) true) (by simp[hv]);simp(disch:=omega) [-Int.natCast_add,-Int.natCast_ediv,q5,q6,q1,q2,hv,hb,hx,hy,hxl,hyl,rx,ry,hv1];refine .aT ?_;simp[hL]at hh⊢;exact hh
  |false=>
   have hh:=ih (by omega) v hv;simp(disch:=omega) [-Int.natCast_add,q5,q6,q1,q2,hv,hb];refine .aT ?_;simp at hh⊢;exact hh
set_option maxHeartbeats 2000000 in
set_option maxRecDepth 8000 in
theorem VQ(g:Gr)(ok:g.Ok):aN Tryz.prog Γ rq [cg g] (.own 1 fW (g.aE.map .bool)):=by
 have o1:=ok.ins;have o3:=ok.sum;have o4:=ok.eT;have hlit:g.lits=2*g.all:=rfl
 have hall:g.all=g.first+g.ands.length:=rfl
 have hfb:g.first<=4001:=by unfold Gr.first;omega
 have key10:∀n j:Nat,j+n=g.outs.length->∀v:List Bool,v=eC (g.outs.take j) (eC g.next (List.replicate g.all false))->aB Tryz.prog Γ (yxy (.ptr 0 0) (.sl 2 0 g.all) (.int .i64 j) (hL g v)) (.ret (.own 1 fW (g.aE.map .bool))):=by
  intro n
  induction n with
  |zero=>
   intro j hj v hv
   have q1:¬j<g.outs.length:=by omega
   have hvl:v.length=g.all:=by rw[hv,nz,nz,ku]
   have hh:=ZB (Γ:=Γ) g ok g.ands.length (aU _) v hvl
   have he:g.aE=fv g.ands g.first g.ands.length v:=by
    rw[hv,cF (by omega),<-xU];rfl
   rw[he];refine .go 60 ?_;simp(disch:=omega) [q1];refine .inLoop ?_;simp;simp[hL]at hh⊢;exact hh
  |succ n ih=>
   intro j hj v hv
   have q1:j<g.outs.length:=by omega
   have q2:=bl (g.ho.of q1)
   have hvl:v.length=g.all:=by rw[hv,nz,nz,ku]
   obtain⟨a1,a2⟩:=ok.outs g.outs[j] (bZ q1);obtain⟨x,hx⟩:=cS a1
   have hxl:x/2<g.all:=by omega
   have rx:(x:Int)/2=((x/2:Nat):Int):=by omega
   have hh:=ih (j+1) (by omega) _ rfl;rw[Jv q1,<-hv,hx]at hh;simp only[cZ]at hh;refine .go 60 ?_;simp(disch:=omega) [-Int.natCast_ediv,q1,q2,hvl,hx,hxl,rx];refine .aT ?_;simp[hL]at hh⊢;exact hh
 have key15:∀n j:Nat,j+n=g.next.length->∀v:List Bool,v=eC (g.next.take j) (List.replicate g.all false)->aB Tryz.prog Γ (yxA (.ptr 0 0) (.sl 2 0 g.all) (.int .i64 j) (hL g v)) (.ret (.own 1 fW (g.aE.map .bool))):=by
  intro n
  induction n with
  |zero=>
   intro j hj v hv
   have q1:¬j<g.next.length:=by omega
   rw[cF (by omega)]at hv;have hh:=key10 g.outs.length 0 (by omega) v (by rw[hv];rfl);refine .go 60 ?_;simp(disch:=omega) [q1];refine .inLoop ?_;simp;simp[hL]at hh⊢;exact hh
  |succ n ih=>
   intro j hj v hv
   have q1:j<g.next.length:=by omega
   have q2:=bl (g.hn.of q1)
   have hvl:v.length=g.all:=by rw[hv,nz,ku]
   obtain⟨a1,a2⟩:=ok.next g.next[j] (bZ q1);obtain⟨x,hx⟩:=cS a1
   have hxl:x/2<g.all:=by omega
   have rx:(x:Int)/2=((x/2:Nat):Int):=by omega
   have hh:=ih (j+1) (by omega) _ rfl;rw[Jv q1,<-hv,hx]at hh;simp only[cZ]at hh;refine .go 60 ?_;simp(disch:=omega) [-Int.natCast_ediv,q1,q2,hvl,hx,hxl,rx];refine .aT ?_;simp[hL]at hh⊢;exact hh
 refine .run 60 WY (by simp) ?_;simp;refine .dr 60 ?_;simp;refine .call (by simp) (mA g o1.1 o1.2 (by omega)) ?_
 have e0:(g.first:Int)+g.ands.length=(g.all:Int):=by rw[hall];simp
 simp(disch:=omega) [e0];refine .inLoop ?_;have hh:=key15 g.next.length 0 (by omega) (List.replicate g.all false) rfl;simp[hL]at hh⊢;exact hh
abbrev Fb(r:List (Int×Int)×Nat):AV:=.agg [.list false 2 (r.1.map cy),.int .i64 (r.2:Nat)]
theorem Ey{p q:Nat}(h:q<p):(p^^^1=q)↔p/2=q/2:=by
 rw[ky];split<;>omega
set_option maxHeartbeats 2000000 in
set_option maxRecDepth 8000 in
theorem IX(l:List (Int×Int))(hl:l.length<2^20)(first:Nat)(hfi:first<2^20)(a b:Nat)(ha:a<2^30)(hab:b<=a):
 aN Tryz.prog Γ rv [.list false 2 (l.map cy),.int .i64 first,.int .i64 a,.int .i64 b] (Fb (bo first l a b)):=by
 have h0:¬a<b:=by omega
 refine .run 120 KF (by simp) ?_;have hM:max a b=a:=Nat.max_eq_left hab;have hm:min a b=b:=HP hab
 by_cases k1:b=0\/(a≠b/\a/2=b/2)
 ·have hk:bo first l a b=(l,0):=by
   unfold bo iu;rw[hM,hm,if_pos]
   rcases k1 with h|⟨h1,h2⟩
   ·exact .inl h
   ·exact .inr ((Ey (by omega)).2 h2)
  rw[hk]
  by_cases q1:b=0
  ·subst q1;simp(disch:=omega) [h0];exact .back (by simp)
  ·have q2:=k1.resolve_left q1;have q3:((a:Int)/2=(b:Int)/2)=True:=bl (by omega);simp(disch:=omega) [h0,q1,q2.1,q2.2,q3,-Int.natCast_ediv];exact .back (by simp)
 ·rw[not_or,not_and]at k1;obtain⟨q1,q2⟩:=k1
  by_cases k2:b=1\/a=b
  ·have hk:bo first l a b=(l,a):=by
    unfold bo iu;rw[hM,hm,if_neg,if_pos k2.symm.symm];rw[not_or];refine⟨q1,fun e=>?_⟩
    rcases jG b a with h|h
    ·exact q2 (by omega) ((Ey h).1 e)
    ·have:a=b:=by omega
     subst this
     rw[ky]at e;split at e<;>omega
   rw[hk]
   by_cases q3:a=b
   ·subst q3
    by_cases q4:a=1
    ·subst q4;simp(disch:=omega) [h0,q1,-Int.natCast_ediv];exact .back (by simp)
    ·have q4':((a:Int)=1)=False:=gq (by omega);simp(disch:=omega) [h0,q1,q4,q4',-Int.natCast_ediv];exact .back (by simp)
   ·have q4:b=1:=by omega
    subst q4;have q5:=q2 q3;have q6:((a:Int)/2=0)=False:=gq (by omega);have q7:((a:Int)=1)=False:=gq (by omega);have q8:(a<1)=False:=gq (by omega);have q9:((a:Int)<1)=False:=gq (by omega);simp(disch:=omega) [h0,q1,q3,q5,q6,q7,q8,q9,-Int.natCast_ediv];exact .back (by simp)
  ·rw[not_or]at k2;obtain⟨q3,q4⟩:=k2;have q5:=q2 q4;have q6:((a:Int)/2=(b:Int)/2)=False:=gq (by omega);have q7:((b:Int)=1)=False:=gq (by omega);simp(disch:=omega) [h0,q1,q3,q4,q5,q6,q7,-Int.natCast_ediv]
   have hG:bo first l a b=match eU (((a:Nat):Int),((b:Nat):Int)) l 0 with
    |some i=>(l,2*(first+i))
    |none=>(l++[(((a:Nat):Int),((b:Nat):Int))],2*(first+l.length)):=by
    unfold bo
    have hk:iu a b=none:=by
     unfold iu;rw[if_neg,if_neg (by rw[not_or];exact⟨q3,q4⟩)];rw[not_or];exact⟨q1,fun e=>q5 ((Ey (by omega)).1 e)⟩
    rw[hM,hm,hk];rfl
   have key:∀n i:Nat,i+n=l.length->aB Tryz.prog Γ (ytk (.list false 2 (l.map cy)) (.int .i64 first) (.int .i64 a) (.int .i64 b) (.ptr 0 0) (.int .i64 i) [.cells [.sl 1 0 0,.int .i64 0],.row 2 bI [] none true false])
    (.ret (Fb (match eU (((a:Nat):Int),((b:Nat):Int)) (l.drop i) i with
    |some i=>(l,2*(first+i))
    |none=>(l++[(((a:Nat):Int),((b:Nat):Int))],2*(first+l.length))))):=by
    intro n
    induction n with
    |zero=>
     intro i hi
     have p1:¬i<l.length:=by omega
     rw[bq (by omega),eU];refine .go 60 ?_
     by_cases e:l=[]
     ·subst e;simp(disch:=(first|omega|(simp;omega))) [p1];exact .back (by simp)
     ·simp(disch:=(first|omega|(simp;omega))) [p1,e];exact .back (by simp;rw[cF (by simp)])
    |succ n ih=>
     intro i hi
     have p1:i<l.length:=by omega
     have h5:=JH l[i].1 l[i].2 a b;have hh:=ih (i+1) (by omega);rw[br p1,eU];refine .go 60 ?_
     by_cases h3:l[i]=((a:Int),(b:Int))
     ·have h6:((l[i].1,l[i].2)=((a:Int),(b:Int)))=True:=bl h3;rw[if_pos h3];simp(disch:=omega) [p1,h5,h6,-Prod.mk.injEq];exact .back (by simp)
     ·have h6:((l[i].1,l[i].2)=((a:Int),(b:Int)))=False:=gq h3;rw[if_neg h3];simp(disch:=omega) [p1,h5,h6,-Prod.mk.injEq];refine .aT ?_;simp at hh⊢;exact hh
   rw[hG];refine .inLoop ?_;have hh:=key l.length 0 (by omega);simp at hh⊢;exact hh
set_option maxRecDepth 8000 in
theorem V2(l:List (Int×Int))(hl:l.length<2^20)(first:Nat)(hfi:first<2^20)(a b:Nat)(ha:a<2^30)(hb:b<2^30):
 aN Tryz.prog Γ rv [.list false 2 (l.map cy),.int .i64 first,.int .i64 a,.int .i64 b] (Fb (bo first l a b)):=by
 by_cases h:a<b
 ·have hc:=IX (Γ:=Γ) l hl first hfi b a hb (by omega)
  rw[Wf];refine .run 60 KF (by simp) ?_;simp[h];refine .call 60 (by simp) hc ?_;simp;exact .back (by simp)
 ·exact IX l hl first hfi a b ha (by omega)
def Gr.jS(x:Gr):Gr:=⟨x.ins,x.closed.next,x.init,x.closed.ands,x.closed.outs,1,x.ki,if x.closed.ands=[]then 0 else 2,1,.self,x.hi,by split;·rename_i h;rw[h];exact .nil
                                                                                                                                    ·exact .self,.self⟩
theorem Tc(x:Gr):dN x.jS x.closed=true:=by simp[dN,Gr.jS,Gr.closed,Gr.dv]
abbrev hX(x:Gr)(to:List Nat)(av:AV)(tl:List Ob):List Ob:=jo x::.cells [.int .i64 0,.sl 2 0 0,.sl 3 0 0,.sl 4 0 0,.sl 5 0 0]::.row 1 az [] none true false::.row 1 az [] none true false::.row 2 bI [] none true false::.row 1 az [] none true false::
 .row 1 fW (x.aE.map .bool) none true false::.row 1 az (to.map iN) none true false::.cells [.int .i64 x.ins,.list true 0 [],.list false x.ki (x.init.map i64),av,.list true 0 []]::
 .row 1 az [] none true false::.row 1 az [] none true false::.row 2 bI [] none true false::.row 1 az [] none true false::tl
set_option maxHeartbeats 4000000 in
set_option maxRecDepth 8000 in
theorem aca(x:Gr)(ok:x.Ok):∀n i:Nat,i+n=x.ands.length->∀l to,l≠[]->l.length<=i->to.length=x.first+i->(∀z∈to,z<2^20)->x.closed=x.dv (iP x.first x.aE (x.ands.drop i) i l to)->
 aB Tryz.prog Γ (PU (.ptr 0 0) (.ptr 1 0) (.sl 6 0 x.aE.length) (.sl 7 0 to.length) (.ptr 8 0) (.int .i64 i) (hX x to (.sl 13 0 l.length) [.row 2 bI (l.map cy) none true false])) (.ret (cg x.jS)):=by
 have o1:=ok.ins;have o3:=ok.sum;have o4:=ok.eT
 have hfb:x.first<=4001:=by unfold Gr.first;omega
 have hF:=mA (Γ:=Γ) x o1.1 o1.2 (by omega);have hll:=Ac x
 have hall:x.all=x.first+x.ands.length:=rfl
 intro n
 induction n with
 |zero=>
  intro i hi l to hl hli hto hz hc
  have q1:¬i<x.ands.length:=by omega
  rw[bq (by omega),iP]at hc;have b1:=sN (Γ:=Γ) to (fun z h=>by have:=hz z h;omega) x.next x.hn (by omega) (fun a ha=>by have:=ok.next a ha;have:x.lits=2*x.all:=rfl;omega) (by omega);have b2:=sN (Γ:=Γ) to (fun z h=>by have:=hz z h;omega) x.outs x.ho (by omega) (fun a ha=>by have:=ok.outs a ha;have:x.lits=2*x.all:=rfl;omega) (by omega);refine .go 120 ?_;simp[q1];refine .call 120 (by simp) b1 ?_;simp;refine .call 120 (by simp) b2 ?_;simp
  have r1:x.closed.next=(cd to x.next).map fun n:Nat=>(n:Int):=by rw[hc];rfl
  have r2:x.closed.outs=(cd to x.outs).map fun n:Nat=>(n:Int):=by rw[hc];rfl
  have r3:x.closed.ands=l:=by rw[hc];rfl
  have r4:cg x.jS=.agg [.int .i64 x.ins,.list false 1 ((cd to x.next).map iN),.list false x.ki (x.init.map i64),.list false 2 (l.map cy),.list false 1 ((cd to x.outs).map iN)]:=by
   unfold Gr.jS cg;simp only[r1,r2,r3,hl,cE,lf];rfl
  rw[r4];exact .back (by simp<;>(constructor<;>rw[cF (by simp)]))
 |succ n ih=>
  intro i hi l to hl hli hto hz hc
  have q1:i<x.ands.length:=by omega
  have q2:=bl (x.ha.of q1);obtain⟨⟨a1,a2⟩,a3,a4⟩:=ok.ands i q1;obtain⟨p,hp⟩:=cS a1;obtain⟨q,hq⟩:=cS a3
  have q3:x.first+i<x.aE.length:=by rw[hll];omega
  have e1:(x.first:Int)+i=((x.first+i:Nat):Int):=by omega
  have hz2:∀z∈to++[2*(x.first+l.length)],z<2^20:=fun z h=>by
   rcases ba.1 h with h|h
   ·exact hz z h
   ·simp at h;omega
  have c1:=q_ (Γ:=Γ) (to++[2*(x.first+l.length)]) (fun z h=>by have:=hz2 z h;omega) p (by simp;omega) (by omega);have c2:=q_ (Γ:=Γ) (to++[2*(x.first+l.length)]) (fun z h=>by have:=hz2 z h;omega) q (by simp;omega) (by omega);rw[br q1,iP,bz,a_ q3]at hc;simp only[gZ]at hc;refine .go 120 ?_;simp(disch:=omega) [q1];refine .dr 120 ?_;simp;refine .call (by simp) hF ?_;simp(disch:=omega);refine .call 120 (by simp) hF ?_
  have e2:2*((x.first:Int)+l.length)=((2*(x.first+l.length):Nat):Int):=by omega
  cases hb:x.aE[x.first+i]with
  |false=>
   rw[hb,if_neg (by simp)]at hc;have hh:=ih (i+1) (by omega) l (to++[2*(x.first+l.length)]) hl (by omega) (by simp;omega) hz2 hc;simp(disch:=omega) [e1,q3,hb,-Int.natCast_add];refine .aT ?_;simp;refine .reset (i:=7) rfl (by simp) (by simp) (by simp) ?_;simp[hX]at hh⊢;exact hh
  |true=>
   rw[hb,if_pos rfl]at hc;have hh:=ih (i+1) (by omega) _ (to++[2*(x.first+l.length)]) (by simp) (by simp;omega) (by simp;omega) hz2 hc;simp(disch:=omega) [e1,q3,hb,-Int.natCast_add];refine .dr 120 ?_;simp(disch:=omega) [q1,q2,hp];refine .call (by simp;rw[cF (by simp)];simp[iN]) c1 ?_;simp(disch:=omega) [q1,q2,hq];refine .call (by simp;rw[cF (by simp)];simp[iN]) c2 ?_
   have en:gI (to++[2*(x.first+l.length)]) x.ands[i]=(((aX (to++[2*(x.first+l.length)]) p:Nat):Int),((aX (to++[2*(x.first+l.length)]) q:Nat):Int)):=by simp[gI,hp,hq]
   rw[en]at hh;simp(disch:=(first|omega|(simp;omega)));refine .aT ?_;simp;refine .reset (i:=7) rfl (by simp) (by simp) (by simp) ?_;refine .reset (i:=13) rfl (by simp) (by simp) (by simp) ?_;simp[hX]at hh⊢;exact hh
set_option maxHeartbeats 4000000 in
set_option maxRecDepth 8000 in
theorem abE(x:Gr)(ok:x.Ok):∀n i:Nat,i+n=x.ands.length->∀to,to.length=x.first+i->(∀z∈to,z<2^20)->x.closed=x.dv (iP x.first x.aE (x.ands.drop i) i [] to)->
 aB Tryz.prog Γ (PU (.ptr 0 0) (.ptr 1 0) (.sl 6 0 x.aE.length) (.sl 7 0 to.length) (.ptr 8 0) (.int .i64 i) (hX x to (.list true 0 []) [])) (.ret (cg x.jS)):=by
 have o1:=ok.ins;have o3:=ok.sum;have o4:=ok.eT
 have hfb:x.first<=4001:=by unfold Gr.first;omega
 have hF:=mA (Γ:=Γ) x o1.1 o1.2 (by omega);have hll:=Ac x
 have hall:x.all=x.first+x.ands.length:=rfl
 intro n
 induction n with
 |zero=>
  intro i hi to hto hz hc
  have q1:¬i<x.ands.length:=by omega
  rw[bq (by omega),iP]at hc;have b1:=sN (Γ:=Γ) to (fun z h=>by have:=hz z h;omega) x.next x.hn (by omega) (fun a ha=>by have:=ok.next a ha;have:x.lits=2*x.all:=rfl;omega) (by omega);have b2:=sN (Γ:=Γ) to (fun z h=>by have:=hz z h;omega) x.outs x.ho (by omega) (fun a ha=>by have:=ok.outs a ha;have:x.lits=2*x.all:=rfl;omega) (by omega);refine .go 120 ?_;simp[q1];refine .call 120 (by simp) b1 ?_;simp;refine .call 120 (by simp) b2 ?_;simp
  have r1:x.closed.next=(cd to x.next).map fun n:Nat=>(n:Int):=by rw[hc];rfl
  have r2:x.closed.outs=(cd to x.outs).map fun n:Nat=>(n:Int):=by rw[hc];rfl
  have r3:x.closed.ands=[]:=by rw[hc];rfl
  have r4:cg x.jS=.agg [.int .i64 x.ins,.list false 1 ((cd to x.next).map iN),.list false x.ki (x.init.map i64),.list false 0 [],.list false 1 ((cd to x.outs).map iN)]:=by
   unfold Gr.jS cg;simp only[r1,r2,r3,bY,lf];rfl
  rw[r4];exact .back (by simp<;>(constructor<;>rw[cF (by simp)]))
 |succ n ih=>
  intro i hi to hto hz hc
  have q1:i<x.ands.length:=by omega
  have q2:=bl (x.ha.of q1);obtain⟨⟨a1,a2⟩,a3,a4⟩:=ok.ands i q1;obtain⟨p,hp⟩:=cS a1;obtain⟨q,hq⟩:=cS a3
  have q3:x.first+i<x.aE.length:=by rw[hll];omega
  have e1:(x.first:Int)+i=((x.first+i:Nat):Int):=by omega
  have hz2:∀z∈to++[2*(x.first+([]:List (Int×Int)).length)],z<2^20:=fun z h=>by
   rcases ba.1 h with h|h
   ·exact hz z h
   ·simp at h;omega
  have c1:=q_ (Γ:=Γ) (to++[2*(x.first+([]:List (Int×Int)).length)]) (fun z h=>by have:=hz2 z h;omega) p (by simp;omega) (by omega);have c2:=q_ (Γ:=Γ) (to++[2*(x.first+([]:List (Int×Int)).length)]) (fun z h=>by have:=hz2 z h;omega) q (by simp;omega) (by omega);rw[br q1,iP,bz,a_ q3]at hc;simp only[gZ]at hc;refine .go 120 ?_;simp(disch:=omega) [q1];refine .dr 120 ?_;simp;refine .call (by simp) hF ?_;simp(disch:=omega);refine .call 120 (by simp) hF ?_
  have e2:2*((x.first:Int)+([]:List (Int×Int)).length)=((2*(x.first+([]:List (Int×Int)).length):Nat):Int):=by omega
  cases hb:x.aE[x.first+i]with
  |false=>
   rw[hb,if_neg (by simp)]at hc;have hh:=ih (i+1) (by omega) (to++[2*(x.first+([]:List (Int×Int)).length)]) (by simp;omega) hz2 hc;simp(disch:=omega) [e1,q3,hb,-Int.natCast_add];refine .aT ?_;simp;refine .reset (i:=7) rfl (by simp) (by simp) (by simp) ?_;simp[hX]at hh⊢;exact hh
  |true=>
   rw[hb,if_pos rfl]at hc;have hh:=aca (Γ:=Γ) x ok n (i+1) (by omega) _ (to++[2*(x.first+([]:List (Int×Int)).length)]) (by simp) (by simp) (by simp;omega) hz2 hc;simp(disch:=omega) [e1,q3,hb,-Int.natCast_add];refine .dr 120 ?_;simp(disch:=omega) [q1,q2,hp];refine .call (by simp;rw[cF (by simp)];simp[iN]) c1 ?_;simp(disch:=omega) [q1,q2,hq];refine .call (by simp;rw[cF (by simp)];simp[iN]) c2 ?_
   have en:gI (to++[2*(x.first+([]:List (Int×Int)).length)]) x.ands[i]=(((aX (to++[2*(x.first+([]:List (Int×Int)).length)]) p:Nat):Int),((aX (to++[2*(x.first+([]:List (Int×Int)).length)]) q:Nat):Int)):=by simp[gI,hp,hq]
   rw[en]at hh;simp(disch:=(first|omega|(simp;omega)));refine .aT ?_;simp;refine .reset (i:=7) rfl (by simp) (by simp) (by simp) ?_;simp[hX]at hh⊢;exact hh
set_option maxHeartbeats 2000000 in
set_option maxRecDepth 8000 in
theorem Tl(x:Gr)(ok:x.Ok):aN Tryz.prog Γ sR [cg x] (cg x.jS):=by
 have o1:=ok.ins;have o3:=ok.sum;have o4:=ok.eT
 have hfb:x.first<=4001:=by unfold Gr.first;omega
 have hF:=mA (Γ:=Γ) x o1.1 o1.2 (by omega)
 have key:∀n j:Nat,j+n=x.first->aB Tryz.prog Γ (ytR (.ptr 0 0) (.ptr 1 0) (.sl 6 0 x.aE.length) (.sl 7 0 (ids j).length) (.ptr 8 0) (.int .i64 j) (hX x (ids j) (.list true 0 []) [])) (.ret (cg x.jS)):=by
  intro n
  induction n with
  |zero=>
   intro j hj
   have e:j=x.first:=by omega
   subst e;have hh:=abE (Γ:=Γ) x ok x.ands.length 0 (by omega) (ids x.first) (by simp) (fun z hz=>by simp[ids]at hz;omega) (by rw[dV];rfl);refine .go 60 ?_;simp;refine .call 60 (by simp) hF ?_;simp;refine .inLoop ?_;simp;simp[hX]at hh⊢;exact hh
  |succ n ih=>
   intro j hj
   have q1:j<x.first:=by omega
   have hh:=ih (j+1) (by omega);rw[DZ]at hh;refine .go 60 ?_;simp;refine .call 60 (by simp) hF ?_;simp(disch:=(first|omega|(simp;omega))) [q1];refine .aT ?_;simp;refine .reset (i:=7) rfl (by simp) (by simp) (by simp) ?_;simp[hX]at hh⊢;exact hh
 refine .run 120 Tp (by simp) ?_;simp;refine .call 120 (by simp) (VQ x ok) ?_;simp;refine .inLoop ?_
 have hh:=key x.first 0 (by omega)
 simp[hX,ids]at hh⊢;exact hh
def Gr.mS(g:Gr):Gr:=⟨g.ins,g.cI.next,g.init,g.cI.ands,g.cI.outs,1,g.ki,2,1,.self,g.hi,.self,.self⟩
theorem Jw(g:Gr):dN g.cI g.mS=true:=by simp[dN,Gr.mS,Gr.cI,Gr.dv]
theorem Lj{g:Gr}(ok:g.Ok):g.mS.Ok:=Gr.lH (by rw[<-(vy (Jw g)).2.1];exact Gr.rC (Ae ok).1)
abbrev hN(g:Gr)(to:List Nat):List Ob:=[jo g,.cells [.int .i64 0,.sl 2 0 0,.sl 3 0 0,.sl 4 0 0,.sl 5 0 0],.row 1 az [] none true false,.row 1 az [] none true false,.row 2 bI [] none true false,.row 1 az [] none true false,
 .row 1 az (to.map iN) none true false]
set_option maxHeartbeats 4000000 in
set_option maxRecDepth 8000 in
theorem ab8(g:Gr)(ok:g.Ok):∀n i:Nat,i+n=g.ands.length->∀l to,l.length<=i->to.length=g.first+i->lX g.first l to->g.cI=g.dv (fu g.first (g.ands.drop i) l to)->
 aB Tryz.prog Γ (ylq (.ptr 0 0) (.ptr 1 0) (.sl 6 0 to.length) (.list false 2 (l.map cy)) (.int .i64 i) (hN g to)) (.ret (.aL [cg g.mS.jS,.int .i64 0])):=by
 have o1:=ok.ins;have o3:=ok.sum;have o4:=ok.eT
 have hfb:g.first<=4001:=by unfold Gr.first;omega
 have hF:=mA (Γ:=Γ) g o1.1 o1.2 (by omega)
 have hall:g.all=g.first+g.ands.length:=rfl
 have hlits:g.lits=2*g.all:=rfl;intro n
 induction n with
 |zero=>
  intro i hi l to hli hto hz hc
  have q1:¬i<g.ands.length:=by omega
  rw[bq (by omega),fu]at hc;have b1:=sN (Γ:=Γ) to (fun z h=>by have:=hz.lt z h;omega) g.next g.hn (by omega) (fun a ha=>by have:=ok.next a ha;omega) (by omega);have b2:=sN (Γ:=Γ) to (fun z h=>by have:=hz.lt z h;omega) g.outs g.ho (by omega) (fun a ha=>by have:=ok.outs a ha;omega) (by omega);have b3:=Tl (Γ:=Γ) g.mS (Lj ok)
  have r1:g.cI.next=(cd to g.next).map fun n:Nat=>(n:Int):=by rw[hc];rfl
  have r2:g.cI.outs=(cd to g.outs).map fun n:Nat=>(n:Int):=by rw[hc];rfl
  have r3:g.cI.ands=l:=by rw[hc];rfl
  have r4:cg g.mS=.agg [.int .i64 g.ins,.list false 1 ((cd to g.next).map iN),.list false g.ki (g.init.map i64),.list false 2 (l.map cy),.list false 1 ((cd to g.outs).map iN)]:=by
   unfold Gr.mS cg;simp only[r1,r2,r3,lf];rfl
  rw[r4]at b3;refine .go 120 ?_;simp[q1];refine .dr 120 ?_;simp;refine .call (by simp) b1 ?_;simp;refine .call (by simp) b2 ?_;simp;refine .call (by simp<;>(constructor<;>rw[cF (by simp)])) b3 ?_;generalize g.mS.jS=Y at*
  by_cases hE:Y.next=[]/\Y.init=[]/\Y.ands=[]/\Y.outs=[]
  ·obtain⟨y1,y2,y3,y4⟩:=hE;simp[y1,y2,y3,y4];exact .back (by simp[y1,y2,y3,y4])
  ·simp[hE];exact .back (by simp)
 |succ n ih=>
  intro i hi l to hli hto hz hc
  have q1:i<g.ands.length:=by omega
  have q2:=bl (g.ha.of q1);obtain⟨⟨a1,a2⟩,a3,a4⟩:=ok.ands i q1;rw[br q1,fu]at hc;obtain⟨p,hp⟩:=cS a1;obtain⟨q,hq⟩:=cS a3;rw[hp,hq]at hc;simp only[cZ]at hc;have c1:=q_ (Γ:=Γ) to (fun z h=>by have:=hz.lt z h;omega) p (by omega) (by omega);have c2:=q_ (Γ:=Γ) to (fun z h=>by have:=hz.lt z h;omega) q (by omega) (by omega);have ha:=mJ hz.lt (a:=p) (by omega);have hb:=mJ hz.lt (a:=q) (by omega);obtain⟨hlt,hge⟩:=tS ha hb (by unfold Gr.first;omega)
  have hal:=vQ g.first l (aX to p) (aX to q)
  have c3:=V2 (Γ:=Γ) l (by omega) g.first (by omega) (aX to p) (aX to q) (by omega) (by omega)
  have hh:=ih (i+1) (by omega) _ _ (by omega) (by simp;omega) ⟨fun z hz2=>by
   rcases ba.1 hz2 with hz2|hz2
   ·have:=hz.lt z hz2;omega
   ·simp at hz2;omega⟩ hc
  generalize bo g.first l (aX to p) (aX to q)=R at*
  refine .go 120 ?_;simp(disch:=omega) [q1];refine .dr 120 ?_;simp;refine .quiet hF (by simp) (by simp) ?_;simp(disch:=omega) [q1,q2,hp];refine .quiet c1 (by simp) (by simp) ?_;simp(disch:=omega) [q1,q2,hq];refine .quiet c2 (by simp) (by simp) ?_;simp(disch:=omega);refine .quiet c3 (by simp) (by simp) ?_;simp(disch:=(first|omega|(simp;omega)));refine .aT ?_;simp;refine .drop 7 rfl (by simp) (by simp) (by simp) ?_;refine .reset (i:=6) rfl (by simp) (by simp) (by simp) ?_;simp[hN]at hh⊢;exact hh
set_option maxHeartbeats 2000000 in
set_option maxRecDepth 8000 in
theorem IA(g:Gr)(hf:g.dJ):∃b:Gr,dN g.normal b=true/\aN Tryz.prog Γ rb [cg g] (.aL [cg b,.int .i64 g.check]):=by
 by_cases hc:g.check=0
 ·have ok:=Gr.lH hc;have o1:=ok.ins;have o3:=ok.sum;have o4:=ok.eT
  have hfb:g.first<=4001:=by unfold Gr.first;omega
  have hF:=mA (Γ:=Γ) g o1.1 o1.2 (by omega);refine⟨g.mS.jS,?_,?_⟩
  ·have e:g.normal=g.cI.dR:=by unfold Gr.normal;rw[if_pos hc]
   obtain⟨k1,k2,k3⟩:=Ae ok;have hs:=Jw g;obtain⟨g1,g2,g3,g4,g5⟩:=pZ hs;obtain⟨l1,l2,l3,l4,l5,l6⟩:=vy hs;rw[e];refine Iu l6 (Iu (Wz (Lj ok) ?_) ?_)
   ·rw[<-l3,<-g4,show g.cI.first=g.first from vL _ _];exact k2
   ·obtain⟨h1,h2,h3,h4,h5⟩:=pZ (Tc g.mS);simp[dN,h1,h2,h3,h4,h5]
  ·have key:∀n j:Nat,j+n=g.first->aB Tryz.prog Γ (yls (.ptr 0 0) (.ptr 1 0) (.sl 6 0 (ids j).length) (.sl 7 0 0) (.int .i64 j) (hN g (ids j)++[.row 2 bI [] none true false])) (.ret (.aL [cg g.mS.jS,.int .i64 0])):=by
    intro n
    induction n with
    |zero=>
     intro j hj
     have e:j=g.first:=by omega
     subst e;have hh:=ab8 (Γ:=Γ) g ok g.ands.length 0 (by omega) [] (ids g.first) (by simp) (by simp) (Av _) (by rw[dV];rfl);refine .go 60 ?_;simp;refine .call 60 (by simp) hF ?_;simp;refine .inLoop ?_;simp;refine .trees [6] ?_;simp;refine .drop 7 rfl (by simp) (by simp) (by simp) ?_;simp[hN]at hh⊢;exact hh
    |succ n ih=>
     intro j hj
     have q1:j<g.first:=by omega
     have hh:=ih (j+1) (by omega);rw[DZ]at hh;refine .go 60 ?_;simp;refine .call 60 (by simp) hF ?_;simp(disch:=(first|omega|(simp;omega))) [q1];refine .aT ?_;simp;refine .reset (i:=6) rfl (by simp) (by simp) (by simp) ?_;simp[hN]at hh⊢;exact hh
   refine .run 120 Ip (by simp) ?_;simp;refine .call 120 (by simp) (CG g hf) ?_;simp[hc];refine .inLoop ?_
   have hh:=key g.first 0 (by omega)
   simp[hN,ids]at hh⊢;exact hh
 ·refine⟨kW,?_,?_⟩
  ·unfold Gr.normal;rw[if_neg hc];exact CJ _
  ·refine .run 120 Ip (by simp) ?_;simp;refine .call 120 (by simp) (CG g hf) ?_;simp[hc,kW];exact .back (by simp[hc])
def w9:Gr:=⟨2,[],[],[(5,2)],[6,2],0,0,2,1,.nil,.nil,.self,.self⟩
def qM:Gr:=⟨2,[],[],[(5,2)],[6,2],1,1,2,1,.self,.self,.self,.self⟩
def py:Md:=⟨w9,[[97],[98]],[],[[122],[97]],1,0,1,.self,.nil,.self⟩
def wR:Md:=⟨w9,[[97],[98]],[],[],1,0,0,.self,.nil,.nil⟩
def eI:Md:=⟨qM,[[97],[98]],[],[[122],[97]],1,0,1,.self,.nil,.self⟩
def wP:Ct:=⟨[[97],[98]],[[122],[97]],[],[dP [110,49] 3 [[98]],dP [110,50] 4 [[110,49],[97]],dP [122] 2 [[110,50]]],1,1,3,5,.self,.self,.self,.self⟩
theorem MP:w9.dJ:=by unfold Gr.dJ w9;decide
theorem NG:mb py:=⟨MP,by decide,by decide,by decide⟩
theorem acb:mb wR:=⟨MP,by decide,by decide,by decide⟩
theorem Nu:cB py=eI:=by kernel_rfl
def acu(i o:List Bs)(l:List Lt)(g:List Gt):Ct:=⟨i,o,l,g,1,1,3,5,.self,.self,.self,.self⟩
theorem abO:aY eI=wP:=by
 have d1:Lib.decDigits 1=[49]:=DF (by omega);have d2:Lib.decDigits 2=[50]:=DF (by omega)
 have f1:dt [[97],[98],[122],[97]] dD=[110,49]:=by simp[dt,j9,d1]
 have f2:dt [[97],[98],[122],[97],[110,49]] dD=[110,50]:=by simp[dt,j9,d1,d2]
 have hA:l0 eI=⟨[dP [110,49] 3 [[98]],dP [110,50] 4 [[110,49],[97]]],[[97],[98],[122],[97],[110,49],[110,50]],[(2,[97]),(4,[98]),(5,[110,49]),(6,[110,50])]⟩:=by
  simp[l0,eI,qM,jq,fF,eR,Ra.aP,Ra.make,getM,dY,By.gate,cC,f1,f2,Gr.first]
 have hL:cR eI=(l0 eI,[]):=by
  unfold cR;simp[eI,qM,ec]
 have hO:ep eI (l0 eI).ar eI.aq eI.g.outs=[dP [122] 2 [[110,50]]]:=by
  rw[hA]
  have p1:cA eI [122]=-1:=by kernel_rfl
  have p2:cA eI [97]=1:=by kernel_rfl
  simp only[eI,qM]at p1 p2⊢;simp[ep,p1,p2,iV,cC,getM]
 show acu eI.ak eI.aq (cR eI).2 ((cR eI).1.af++ep eI (cR eI).1.ar eI.aq eI.g.outs)=wP
 rw[hL];simp only[hO];rw[hA];rfl
theorem Zk:ig py=(wP,0):=by
 have h:cO py=0:=by kernel_rfl
 unfold ig;rw[if_pos h,Nu,abO,show(fY wP).1=0 by kernel_rfl];rfl
theorem Yx:ig wR=(eY,1):=by
 have h:cO wR=1:=by kernel_rfl
 unfold ig;rw[if_neg (by rw[h];decide),h]
theorem aaX:fL py=(eI,0):=by
 have h:cO py=0:=by kernel_rfl
 unfold fL;rw[if_pos h,Nu]
set_option maxRecDepth 8000 in
theorem Y0(hΓ:lU Γ)(hP:mY Γ):aN Tryz.prog Γ y5 [] (.bool true):=by
 have h1:=Em hΓ hP py NG;have h2:=DI (Γ:=Γ) py NG;have h3:=Em hΓ hP wR acb;have h4:=pV (Γ:=Γ) [[110,49],[97]] [[110,49],[97]] (ka:=1) (kb:=1) .self .self (by simp);have h5:=Lf (Γ:=Γ) qM (by unfold Gr.dJ qM;decide);rw[Zk]at h1;rw[aaX]at h2;rw[Yx]at h3;rw[show t_ qM=2 by kernel_rfl]at h5;unfold wP dP at h1;unfold eI at h2;unfold eY at h3;unfold py at h1 h2;unfold wR at h3;unfold w9 qM at*;simp at h1 h2 h3 h4 h5;refine .run 120 T' (by simp) ?_;simp;refine .call 120 (by simp) h1 ?_;simp;refine .call 120 (by simp) h2 ?_;simp;refine .call 120 (by simp) h3 ?_;simp;refine .call 120 (by simp) h4 ?_;simp;refine .call 120 (by simp) h5 ?_;simp;exact .back (by simp)
def wD(m:Md):Bool:=m.g.AR&&(oS 40 m.ak&&(oS 40 m.ai&&oS 60 m.aq))
theorem Zz(m:Md):aN Tryz.prog Γ zp [cp m] (.bool (wD m)):=by
 have h1:=WD (Γ:=Γ) m.g;have h2:=CO (Γ:=Γ) m.ak 40 (by omega) m.hI;have h3:=CO (Γ:=Γ) m.ai 40 (by omega) m.hL;have h4:=CO (Γ:=Γ) m.aq 60 (by omega) m.hO;unfold wD;simp at h1 h2 h3 h4;refine .run 90 V3 (by simp) ?_;simp;refine .call 90 (by simp) h1 ?_;simp;refine .call 90 (by simp) h2 ?_;simp;refine .call 90 (by simp) h3 ?_;simp;refine .call 90 (by simp) h4 ?_
 cases m.g.AR<;>cases oS 40 m.ak<;>cases oS 40 m.ai<;>cases oS 60 m.aq<;>simp<;>exact .back (by simp)
def fX(m:Md)(b:Gr):Md:=⟨b,m.ak,m.ai,m.aq,m.kI,m.kL,m.kO,m.hI,m.hL,m.hO⟩
set_option maxRecDepth 8000 in
theorem Iz(m:Md)(hb:mb m)(hS:∀s∈m.ak++m.ai++m.aq,s.length<2^60):
 ∃b:Gr,dN m.g.normal b=true/\aN Tryz.prog Γ vp [cp m] (.aL [cp (if cO m=0 then fX m b else j_),.int .i64 (cO m)]):=by
 have hC:=Uf (Γ:=Γ) m hb hS;obtain⟨b,h1,hN⟩:=IA (Γ:=Γ) m.g hb.1;refine⟨b,h1,?_⟩;refine .run 60 Tx (by simp) ?_;simp;refine .call 60 (by simp) hC ?_
 by_cases h0:cO m=0
 ·simp[h0];refine .call 60 (by simp) hN ?_;simp[fX];exact .back (by simp)
 ·simp[h0,j_,kW];exact .back (by simp)
theorem WX{m:Md}(h:wD m=true):∀s∈m.ak++m.ai++m.aq,s.length<=60:=by
 unfold wD oS at h;simp only[aC,je]at h;obtain⟨_,⟨_,h1⟩,⟨_,h2⟩,⟨_,h3⟩⟩:=h
 have key:∀l:List Bs,aZ qv l=false->∀s∈l,s.length<=60:=fun l hl s hs=>by
  have:=E1 hl s hs;unfold qv at this;have:=of_decide_eq_false this;omega
 intro s hs;simp only[ba]at hs
 rcases hs with(hs|hs)|hs
 ·exact key _ h1 s hs
 ·exact key _ h2 s hs
 ·exact key _ h3 s hs
structure Rm where
 af:List Gt
 used:List Bs
 ar:List Bs
 kG:Nat
 kU:Nat
 kN:Nat
 hG:Kd 5 kG af
 hU:Kd 1 kU used
 hN:Kd 1 kN ar
abbrev kY(x:Rm):AV:=.agg [.list false x.kG (x.af.map ez),.list false x.kU (x.used.map .str),.list false x.kN (x.ar.map .str)]
structure Rm.dJ(x:Rm):Prop where
 g:x.af.length<2^19
 u:x.used.length<2^19
 n:x.ar.length<2^19
def Rm.fresh(x:Rm):Bs:=dt x.used [110]
def Rm.jA(x:Rm)(s:Bs)(a:Nat)(op:Int)(ins:List Bs)(ki:Nat)(hi:Kd 1 ki ins):Rm:=
 ⟨x.af++[⟨s,op,ins,[],false,ki,0,hi,.nil⟩],x.used++[s],x.ar.set a s,5,1,1,.self,.self,.self⟩
def Rm.k9(x:Rm)(a:Nat)(op:Int)(ins:List Bs)(ki:Nat)(hi:Kd 1 ki ins):Rm:=x.jA x.fresh a op ins ki hi
set_option maxRecDepth 8000 in
theorem y9(x:Rm)(hx:x.dJ)(a:Nat)(ha:a<x.ar.length)(op:Int)(ins:List Bs){fl:Bool}{ki:Nat}(hi:Kd 1 ki ins):
 aN Tryz.prog Γ pY [kY x,.int .i64 a,.int .i64 op,.list fl ki (ins.map .str)] (kY (x.k9 a op ins ki hi)):=by
 have hF:=Ut (Γ:=Γ) x.used [110] x.hU (by have:=hx.u;omega) (by simp);have g1:=hx.g;have u1:=hx.u;have n1:=hx.n;have hkG:x.kG=5\/x.af=[]:=x.hG;have hkU:x.kU=1\/x.used=[]:=x.hU;have hkN:x.kN=1\/x.ar=[]:=x.hN
 have hne:x.ar≠[]:=by intro h;rw[h]at ha;simp at ha
 have b1:x.af.length*80<=140737488355328:=by omega
 have b2:x.used.length*16<=140737488355328:=by omega
 have b3:x.ar.length*16<=140737488355328:=by omega
 have b4:(x.af.length+1)*80<=140737488355328:=by omega
 have b5:(x.used.length+1)*16<=140737488355328:=by omega
 have hkN':x.kN=1:=hkN.resolve_right hne;unfold Rm.k9 Rm.fresh;generalize dt x.used [110]=s at*;refine .run 90 Vq (by simp) ?_;simp;refine .call 90 (by simp) hF ?_
 have t1:∀v,(x.af.map ez++[v]).take (x.af.length+1)=x.af.map ez++[v]:=fun v=>cF (by simp)
 have t2:(x.used.map AV.str++[AV.str s]).take (x.used.length+1)=x.used.map AV.str++[AV.str s]:=cF (by simp);have t3:((x.ar.map AV.str).set a (AV.str s)).take x.ar.length=(x.ar.map AV.str).set a (AV.str s):=cF (by simp)
 by_cases c1:x.af=[]
 ·by_cases c2:x.used=[]
  ·simp[c1,c2,hkN',hne,b1,b2,b3,ha];exact .back (by simp[Rm.jA,c1,c2,hkN',lj,t1,t2,t3])
  ·have hkU':=hkU.resolve_right c2;simp[c1,c2,hkN',hkU',hne,b1,b2,b3,b5,ha];exact .back (by simp[Rm.jA,c1,c2,hkN',lj,t1,t2,t3])
 ·have hkG':=hkG.resolve_right c1
  by_cases c2:x.used=[]
  ·simp[c1,c2,hkN',hkG',hne,b1,b2,b3,b4,ha];exact .back (by simp[Rm.jA,c1,c2,hkN',lj,t1,t2,t3])
  ·have hkU':=hkU.resolve_right c2;simp[c1,c2,hkN',hkU',hkG',hne,b1,b2,b3,b4,b5,ha];exact .back (by simp[Rm.jA,c1,c2,hkN',lj,t1,t2,t3])
def Rm.wS(x:Rm)(a:Nat)(s:Bs):Rm:=x.k9 a 3 [s] 1 .self
def Rm.aP(x:Rm)(a:Nat):Rm:=
 if x.ar.getD a []≠[]then x else
 if a=0 then x.k9 a 0 [] 0 .nil else
 if a=1 then x.k9 a 1 [] 0 .nil else x.wS a (x.ar.getD (a-1) [])
set_option maxRecDepth 8000 in
theorem C0(x:Rm)(hx:x.dJ)(a:Nat)(ha:a<x.ar.length):
 aN Tryz.prog Γ s7 [kY x,.int .i64 a] (kY (x.aP a)):=by
 have n1:=hx.n;have hkN:x.kN=1\/x.ar=[]:=x.hN
 have hne:x.ar≠[]:=by intro h;rw[h]at ha;simp at ha
 have hkN':x.kN=1:=hkN.resolve_right hne;have w0:=y9 (Γ:=Γ) x hx a ha 0 [] (fl:=false) (ki:=0) .nil;have w1:=y9 (Γ:=Γ) x hx a ha 1 [] (fl:=false) (ki:=0) .nil
 have w2:∀s:Bs,aN Tryz.prog Γ pY [kY x,.int .i64 a,.int .i64 3,.list false 1 [.str s]] (kY (x.wS a s)):=fun s=>y9 (Γ:=Γ) x hx a ha 3 [s] (fl:=false) (ki:=1) .self
 have e1:x.ar.getD a []=x.ar[a]:=by simp[List.getD,ha]
 unfold Rm.aP;rw[e1]
 by_cases c0:x.ar[a]=[]
 ·by_cases c1:a=0
  ·subst c1;refine .run 60 zd (by simp) ?_;simp at w0;simp[ha,hkN',hne,c0];refine .call 60 (by simp[hkN']) w0 ?_;simp;exact .back (by simp)
  ·have d1:¬(a:Int)=0:=by omega
   by_cases c2:a=1
   ·subst c2;refine .run 60 zd (by simp) ?_;simp at w1
    have ha':(1:Int)<(x.ar.length:Int):=by omega
    have ha2:(1:Int).toNat=1:=rfl;simp[ha,ha',ha2,hkN',hne,c0];refine .call 60 (by simp[hkN']) w1 ?_;simp;exact .back (by simp)
   ·have d2:¬(a:Int)=1:=by omega
    have ha1:a-1<x.ar.length:=by omega
    have e2:((a:Int)-1)=((a-1:Nat):Int):=by omega
    have e3:x.ar.getD (a-1) []=x.ar[a-1]:=by simp[List.getD,ha1]
    have w3:=w2 (x.ar.getD (a-1) []);rw[if_neg (by simp[c0]),if_neg c1,if_neg c2];refine .run 60 zd (by simp) ?_;simp(disch:=omega) [ha,hkN',hne,c0,c1,c2,d1,d2];refine .dr 60 ?_;simp(disch:=omega) [e2,ha1,hkN',hne];rw[e3]at w3;refine .call (by simp[hkN']) w3 ?_;simp;exact .back (by simp)
 ·refine .run 60 zd (by simp) ?_;simp[ha,hkN',hne,c0];exact .back (by simp[hkN'])
def Rm.plus(x:Rm)(g:Gt):Rm:=⟨x.af++[g],x.used,x.ar,5,x.kU,x.kN,.self,x.hU,x.hN⟩
def AD(s:Bs)(a:Nat)(b:Bs):Gt:=
 if a=0 then⟨s,0,[],[],false,0,0,.nil,.nil⟩else
 if a=1 then⟨s,1,[],[],false,0,0,.nil,.nil⟩else
 if a%2=1 then⟨s,3,[b],[],false,1,0,.self,.nil⟩else⟨s,2,[b],[],false,1,0,.self,.nil⟩
def Rm.out(x:Rm)(s:Bs)(a:Nat):Rm:=x.plus (AD s a (x.ar.getD (a-a%2) []))
set_option maxRecDepth 8000 in
theorem Ts(x:Rm)(hx:x.dJ)(s:Bs)(a:Nat)(ha:a<x.ar.length):
 aN Tryz.prog Γ xY [kY x,.str s,.int .i64 a] (kY (x.out s a)):=by
 have n1:=hx.n;have g1:=hx.g;have hkN:x.kN=1\/x.ar=[]:=x.hN;have hkG:x.kG=5\/x.af=[]:=x.hG
 have hne:x.ar≠[]:=by intro h;rw[h]at ha;simp at ha
 have hkN':x.kN=1:=hkN.resolve_right hne
 have b1:x.af.length*80<=140737488355328:=by omega
 have b4:(x.af.length+1)*80<=140737488355328:=by omega
 have t1:∀v,(x.af.map ez++[v]).take (x.af.length+1)=x.af.map ez++[v]:=fun v=>cF (by simp)
 obtain⟨p,hp⟩:∃p,p=a-a%2:=⟨_,rfl⟩
 have hpl:p<x.ar.length:=by omega
 have r1:(a:Int).tmod 2=((a%2:Nat):Int):=(Int.ofNat_tmod a 2).symm
 have e2:((a:Int)-((a%2:Nat):Int))=(p:Int):=by omega
 have e3:x.ar.getD (a-a%2) []=x.ar[p]:=by rw[<-hp];simp[List.getD,hpl]
 unfold Rm.out AD;rw[e3];obtain⟨b,hb⟩:∃b,b=x.ar[p]:=⟨_,rfl⟩;rw[<-hb]
 by_cases c1:a=0
 ·subst c1
  by_cases c3:x.af=[]
  ·refine .run 90 pS (by simp) ?_;simp[ha,hkN',hne,c3,b1,b4];exact .back (by simp[Rm.plus,c3,hkN'])
  ·have hkG':=hkG.resolve_right c3;refine .run 90 pS (by simp) ?_;simp[ha,hkN',hne,c3,hkG',b1,b4];exact .back (by simp[Rm.plus,c3,hkN',t1])
 ·have d1:¬(a:Int)=0:=by omega
  by_cases c2:a=1
  ·subst c2
   by_cases c3:x.af=[]
   ·refine .run 90 pS (by simp) ?_;simp[hkN',hne,c3,b1,b4];exact .back (by simp[Rm.plus,c3,hkN'])
   ·have hkG':=hkG.resolve_right c3;refine .run 90 pS (by simp) ?_;simp[hkN',hne,c3,hkG',b1,b4];exact .back (by simp[Rm.plus,c3,hkN',t1])
  ·have d2:¬(a:Int)=1:=by omega
   have d3:(1:Int)<a:=by omega
   have hpw:IntKind.i64.wrap (p:Int)=p:=wrap64 (by omega) (by omega)
   by_cases c4:a%2=1
   ·have d4:((a%2:Nat):Int)=1:=by omega
    rw[d4]at r1 e2
    by_cases c3:x.af=[]
    ·refine .run 120 pS (by simp) ?_;simp[hkN',hne,c3,b1,b4,c1,c2,c4,d1,d2,d3,r1,e2,hpl,hpw,<-hb];exact .back (by simp[Rm.plus,c3,hkN'])
    ·have hkG':=hkG.resolve_right c3;refine .run 120 pS (by simp) ?_;simp[hkN',hne,c3,hkG',b1,b4,c1,c2,c4,d1,d2,d3,r1,e2,hpl,hpw,<-hb];exact .back (by simp[Rm.plus,c3,hkN',t1])
   ·have d4:((a%2:Nat):Int)=0:=by omega
    have c5:a%2=0:=by omega
    rw[d4]at r1 e2;rw[Int.sub_zero]at e2;have e4:(a:Int)=(p:Int):=e2
    have e5:a=p:=by omega
    subst e5
    by_cases c3:x.af=[]
    ·refine .run 120 pS (by simp) ?_;simp[hkN',hne,c3,b1,b4,c1,c2,c4,c5,d1,d2,d3,r1,hpl,hpw,<-hb];exact .back (by simp[Rm.plus,c3,hkN'])
    ·have hkG':=hkG.resolve_right c3;refine .run 120 pS (by simp) ?_;simp[hkN',hne,c3,hkG',b1,b4,c1,c2,c4,c5,d1,d2,d3,r1,hpl,hpw,<-hb];exact .back (by simp[Rm.plus,c3,hkN',t1])
def ju(names:List Bs):Nat->List Bs->List Bs
 |0,ar=>ar
 |i+1,ar=>(ju names i ar).set (2*(i+1)) (names.getD i [])
theorem tH(names:List Bs):∀(i:Nat)(ar:List Bs),(ju names i ar).length=ar.length
 |0,ar=>rfl
 |i+1,ar=>by rw[ju,kp,tH]
abbrev sj(m:Md)(names ar:List Bs):List Ob:=[.cells (AV.cells (cp m)),.cells [.sl 2 0 0,.sl 3 0 0,.sl 4 0 0],.row 5 dB [] none true false,.row 1 au [] none true false,.row 1 au [] none true false,.row 1 au (names.map .str) none true false,.cells [.list true 0 [],.list true 0 [],.sl 10 0 ar.length],.row 5 dB [] none true false,.row 1 au [] none true false,.row 1 au [] none true false,.row 1 au (ar.map .str) none true false]
def Rm.begin(names outs ar:List Bs):Rm:=⟨[],names++outs,ar,0,1,1,.nil,.self,.self⟩
set_option maxRecDepth 8000 in
theorem abL(m:Md)(names ar:List Bs)(hO:m.aq.length<2^30)(hn:names.length<2^20)(hl:2*names.length+2<=ar.length)(hl2:ar.length<2^20):∀k i:Nat,i+k=names.length->
 aB Tryz.prog Γ (yhN (.ptr 0 0) (.ptr 1 0) (.sl 5 0 names.length) (.ptr 6 0) (.int .i64 i) (sj m names (ju names i ar))) (.ret (kY (Rm.begin names m.aq (ju names names.length ar)))):=by
 intro k
 induction k with
 |zero=>
  intro i hi
  have q1:¬i<names.length:=by omega
  obtain rfl:i=names.length:=by omega
  have hkO:m.kO=1\/m.aq=[]:=m.hO;have e1:=tH names names.length ar
  have b1:(names.length+m.aq.length)*16<=140737488355328:=by omega
  generalize ju names names.length ar=N at*;have t1:(names.map AV.str++m.aq.map AV.str).take (names.length+m.aq.length)=names.map AV.str++m.aq.map AV.str:=cF (by simp);have t2:(N.map AV.str).take N.length=N.map AV.str:=cF (by simp);refine .go 90 ?_;simp[q1,sj,hkO,b1];exact .back (by by_cases hq:m.aq=[]<;>simp[Rm.begin,hq]at t1⊢<;>simp[t1,t2])
 |succ k ih=>
  intro i hi
  have q1:i<names.length:=by omega
  have hh:=ih (i+1) (by omega);have e1:=tH names i ar
  have e2:names.getD i []=names[i]:=by simp[List.getD,q1]
  rw[ju,e2]at hh;generalize ju names i ar=N at*
  have q2:2*(i+1)<N.length:=by omega
  have e3:(2*((i:Int)+1))=((2*(i+1):Nat):Int):=by omega
  obtain⟨p,hp⟩:∃p,p=2*(i+1):=⟨_,rfl⟩;rw[<-hp]at e3 q2 hh;have hpw:IntKind.i64.wrap (p:Int)=p:=wrap64 (by omega) (by omega);have hiw:IntKind.i64.wrap ((i:Int)+1)=(i:Int)+1:=wrap64 (by omega) (by omega);refine .go 60 ?_;simp[q1,sj,q2,hiw,e3,hpw];refine .aT ?_;simp(disch:=omega) [sj,hiw,lj]at hh⊢;exact hh
end Go.Proofs.YtchjijfjidlpjaaGreatDoor
namespace Go.AM
section
variable{P:Program}{Γ:Nat->Option AV}{dp:List (List Nat)}{gs:List AG}{fn:FuncId}{k:List It}{ds:List di}{kind:FK}{base:Nat}{up:List Fr}{c:aw}
theorem iU.abU{done:List Nat}{n:Nat}{t:List AV}{h:List Ob}
 (h1:∀i∈(List.range dp.length).filter (jk dp done),∃d op v h',gs.getD i default=⟨d,none,op⟩/\(aA P Γ t h op=.val v h'\/(v=.aL []/\aA P Γ t h op=.skip h')\/(h'=h/\∃f args xs m,aD P f=true/\aA P Γ t h op=.call f args/\bK h args=some xs/\aN P Γ f xs (.int .i64 m)/\v=.int .i64 m))/\iU P Γ dp gs fn k ds kind base up c (i::done) n (aW t d v) h'):iU P Γ dp gs fn k ds kind base up c done (n+1) t h:=by
 intro l hl;simp only[eM,od,db]at hl;obtain⟨i,hi,l',hl',rfl⟩:=hl;obtain⟨d,op,v,h',e1,e2,h3⟩:=h1 i hi;have h4:=h3 l' hl';refine .trans (Reach.uj 1 _) ?_;simp only[cv,e1]
 rcases e2 with e2|⟨rfl,e2⟩|⟨rfl,f,args,xs,m,hb,e2,e3,e4,rfl⟩
 ·rw[show(1:Nat)=0+1 from rfl,wi,e2,Mj];exact h4
 ·rw[show(1:Nat)=0+1 from rfl,wi,e2,K_];exact h4
 ·rw[show(1:Nat)=0+1 from rfl,wi,e2,YV,if_pos hb];refine .call 1 e3 e4 ?_;simp;exact h4
end
end Go.AM
namespace Go.Proofs.YtchjijfjidlpjaaGreatDoor
open Go.AM Go.Proofs
variable{Γ:Nat->Option AV}
abbrev tB(n:Nat)(x4 a b c d e f g h i j k:AV):List AV:=[U,.ptr 0 0,.ptr 1 0,.sl 5 0 n,x4,U,U,U,U,U,U,U,U,U,a,b,c,d,e,f,g,h,i,j,k]++List.replicate 22 U
abbrev iZ(m:Md)(names:List Bs):List Ob:=[.cells (AV.cells (cp m)),.cells [.sl 2 0 0,.sl 3 0 0,.sl 4 0 0],.row 5 dB [] none true false,.row 1 au [] none true false,.row 1 au [] none true false,.row 1 au (names.map .str) none true false]
abbrev n4:=List Nat×List Nat
abbrev B3:List (List Nat):=[[],[0],[1],[],[3],[4],[5],[2,6],[7],[8,8],[9],[],[11,10,2,0,1,2,3,4,5,6,7,8,9,10,11]]
abbrev PB(x:n4):List Nat:=(List.range 13).filter (jk B3 x.1)
def wI(i:Nat):List Nat->List Nat
 |[]=>[i]
 |a::l=>if i<a then i::a::l else a::wI i l
def jE(i:Nat)(x:n4):n4:=(wI i x.1,if i==9||i==11 then x.2++[i]else x.2)
def mg(y:Nat):List Nat->Nat
 |[]=>0
 |a::l=>if a==y then 0 else(if a==11 then 4 else 1)+mg y l
def yB(m:Md)(x:n4):Nat->AV
 |0=>.ptr 0 0|1=>cg m.g|2=>.int .i64 m.g.first|3=>.ptr 0 0|4=>.ptr 0 3|5=>.list false m.g.ka (m.g.ands.map cy)|6=>.int .i64 m.g.ands.length
 |7=>.int .i64 ((m.g.first:Int)+m.g.ands.length)|8=>.int .i64 (2*((m.g.first:Int)+m.g.ands.length))
 |9=>.sl (6+mg 9 x.2) 0 (2*(m.g.first+m.g.ands.length))|10=>.agg [.list true 0 [],.list true 0 [],.sl (6+mg 9 x.2) 0 (2*(m.g.first+m.g.ands.length))]
 |11=>.ptr (6+mg 11 x.2) 0|_=>.aL []
def zBx(m:Md)(x:n4)(i:Nat):AV:=if x.1.contains i then yB m x i else U
def n5(m:Md)(n:Nat)(x:n4):List AV:=tB n (zBx m x 11) (zBx m x 0) (zBx m x 1) (zBx m x 2) (zBx m x 3) (zBx m x 4) (zBx m x 5) (zBx m x 6) (zBx m x 7) (zBx m x 8) (zBx m x 9) (zBx m x 10)
def wG(m:Md)(x:n4)(i:Nat):List Ob:=
 if i==9 then[.row 1 au (List.replicate (2*(m.g.first+m.g.ands.length)) (.str [])) none true false]
 else[.cells (if x.1.contains 12 then[.list true 0 [],.list true 0 [],.sl (6+mg 9 x.2) 0 (2*(m.g.first+m.g.ands.length))]else[.sl (6+(mg 11 x.2+1)) 0 0,.sl (6+(mg 11 x.2+2)) 0 0,.sl (6+(mg 11 x.2+3)) 0 0]),.row 5 dB [] none true false,.row 1 au [] none true false,.row 1 au [] none true false]
def j8(m:Md)(names:List Bs)(x:n4):List Ob:=iZ m names++x.2.flatMap (wG m x)
abbrev uA:List n4:=[([],[]),([0],[]),([3],[]),([11],[11]),([0,1],[]),([0,3],[]),([0,11],[11]),([3,4],[]),([3,11],[11]),([0,1,2],[]),([0,1,3],[]),([0,1,11],[11]),([0,3,4],[]),([0,3,11],[11]),([3,4,5],[]),([3,4,11],[11]),([0,1,2,3],[]),([0,1,2,11],[11]),([0,1,3,4],[]),([0,1,3,11],[11]),([0,3,4,5],[]),([0,3,4,11],[11]),([3,4,5,6],[]),([3,4,5,11],[11]),([0,1,2,3,4],[]),([0,1,2,3,11],[11]),([0,1,3,4,5],[]),([0,1,3,4,11],[11]),([0,3,4,5,6],[]),([0,3,4,5,11],[11]),([3,4,5,6,11],[11]),([0,1,2,3,4,5],[]),([0,1,2,3,4,11],[11]),([0,1,3,4,5,6],[]),([0,1,3,4,5,11],[11]),([0,3,4,5,6,11],[11]),([0,1,2,3,4,5,6],[]),([0,1,2,3,4,5,11],[11]),([0,1,3,4,5,6,11],[11]),([0,1,2,3,4,5,6,7],[]),([0,1,2,3,4,5,6,11],[11]),([0,1,2,3,4,5,6,7,8],[]),([0,1,2,3,4,5,6,7,11],[11]),([0,1,2,3,4,5,6,7,8,9],[9]),([0,1,2,3,4,5,6,7,8,11],[11]),([0,1,2,3,4,5,6,7,8,9,10],[9]),([0,1,2,3,4,5,6,7,8,9,11],[9,11]),([0,1,2,3,4,5,6,7,8,9,11],[11,9]),([0,1,2,3,4,5,6,7,8,9,10,11],[9,11]),([0,1,2,3,4,5,6,7,8,9,10,11],[11,9]),([0,1,2,3,4,5,6,7,8,9,10,11,12],[9,11]),([0,1,2,3,4,5,6,7,8,9,10,11,12],[11,9])]
section
variable{m:Md}{names:List Bs}{k:List It}{C:AM.aw}
abbrev AB(Γ:Nat->Option AV)(m:Md)(names:List Bs)(k:List It)(C:AM.aw)(x:n4):Prop:=iU Tryz.prog Γ B3 wX mw k [] .norm 0 [] C x.1 (13-x.1.length) (n5 m names.length x) (j8 m names x)
theorem YU:(uA.all fun x=>(decide (x.1.length<13)||(uA.drop 50).contains x)&&(PB x).all fun i=>(uA.contains (jE i x))&&(i::x.1).isPerm (jE i x).1&&decide ((i::x.1).length=(jE i x).1.length))=true:=by kernel_rfl
set_option maxRecDepth 8000 in
theorem ack(hF:aN Tryz.prog Γ gM [cg m.g] (.int .i64 m.g.first))(hN:2*(m.g.first+m.g.ands.length)<2^20):∀x∈uA,∀i∈PB x,∃d op,wX.getD i default=⟨d,none,op⟩/\
 (aA Tryz.prog Γ (n5 m names.length x) (j8 m names x) op=.val (yB m (jE i x) i) (j8 m names (jE i x))\/(yB m (jE i x) i=.aL []/\aA Tryz.prog Γ (n5 m names.length x) (j8 m names x) op=.skip (j8 m names (jE i x)))\/
  (j8 m names (jE i x)=j8 m names x/\∃f args xs n,aD Tryz.prog f=true/\aA Tryz.prog Γ (n5 m names.length x) (j8 m names x) op=.call f args/\bK (j8 m names x) args=some xs/\aN Tryz.prog Γ f xs (.int .i64 n)/\yB m (jE i x) i=.int .i64 n))/\
 aW (n5 m names.length x) d (yB m (jE i x) i)=n5 m names.length (jE i x):=by
 have w1:IntKind.i64.wrap ((m.g.first:Int)+m.g.ands.length)=(m.g.first:Int)+m.g.ands.length:=wrap64 (by omega) (by omega);have w2:IntKind.i64.wrap (2*((m.g.first:Int)+m.g.ands.length))=2*((m.g.first:Int)+m.g.ands.length):=wrap64 (by omega) (by omega);have w3:(0<=2*((m.g.first:Int)+m.g.ands.length))=True:=bl (by omega)
 have w4:(2*((m.g.first:Int)+m.g.ands.length)).toNat=2*(m.g.first+m.g.ands.length):=by omega
 have w5:(2*((m.g.first:Int)+m.g.ands.length)<0)=False:=gq (by omega);have b8:(2*((m.g.first:Int)+m.g.ands.length)*16<=140737488355328/\2*((m.g.first:Int)+m.g.ands.length)<=140737488355328)=True:=bl (by omega);have b9:(2*((m.g.first:Int)+m.g.ands.length)*16<=140737488355328)=True:=bl (by omega);have b10:(2*((m.g.first:Int)+m.g.ands.length)<=140737488355328)=True:=bl (by omega)
 repeat' (first|refine QY.2 ⟨?_,?_⟩|exact List.forall_mem_nil _)
 all_goals
  first
  |(refine⟨_,_,rfl,.inl ?_,rfl⟩;simp[n5,j8,zBx,yB,mg,jE,wI,wG,w1,w2,w3,w4,w5,b8,b9,b10];done)
  |(refine⟨_,_,rfl,.inr (.inr ⟨rfl,gM,_,[cg m.g],m.g.first,by simp,rfl,?_,hF,rfl⟩),rfl⟩;simp[n5,j8,zBx,yB,mg,jE,wI,wG];done)
  |(refine⟨_,_,rfl,.inr (.inl ⟨rfl,?_⟩),rfl⟩;simp[n5,j8,zBx,yB,mg,jE,wI,wG,w1,w2,w3,w4];done)
set_option maxRecDepth 8000 in
theorem acq(hk:fE 6 k=true)
 (hC:AM.Reach Tryz.prog Γ (.fr ⟨.run,mw,.ops []::k,tB names.length (.ptr 6 0) U U U U U U U U U U U,[],.norm,0⟩ [] (sj m names (List.replicate (2*(m.g.first+m.g.ands.length)) []))) C):∀x∈uA.drop 50,AB Γ m names k C x:=by
 simp[sj]at hC
 repeat' (first|refine QY.2 ⟨?_,?_⟩|exact List.forall_mem_nil _)
 all_goals
  refine .trans (.nS [14,15,16,17,18,19,20,21,22,23,24] _) ?_;simp[nQ,n5,j8,zBx,yB,mg,wG]
  first
  |exact hC
  |(refine .Fv 6 [1,2,3,4,0] (by simp[hk];done) (by decide) ?_
    simp
    exact hC)
end
set_option maxRecDepth 8000 in
theorem aaQ{m:Md}{names:List Bs}{k:List It}{C:AM.aw}(hF:aN Tryz.prog Γ gM [cg m.g] (.int .i64 m.g.first))(hN:2*(m.g.first+m.g.ands.length)<2^20)(hk:fE 6 k=true)
 (hC:AM.Reach Tryz.prog Γ (.fr ⟨.run,mw,.ops []::k,tB names.length (.ptr 6 0) U U U U U U U U U U U,[],.norm,0⟩ [] (sj m names (List.replicate (2*(m.g.first+m.g.ands.length)) []))) C):
 AM.Reach Tryz.prog Γ (.fr ⟨.run,mw,.code (.eH B3 wX)::k,tB names.length U U U U U U U U U U U U,[],.norm,0⟩ [] (iZ m names)) C:=by
 have ha:=YU;simp only[dL,aC,fR,Cc,List.isPerm_iff,a8]at ha
 have key:∀n,∀x∈uA,13-x.1.length=n->AB Γ m names k C x:=by
  intro n
  induction n with
  |zero=>exact fun x hx hn=>acq hk hC x ((ha x hx).1.resolve_left (by omega))
  |succ n ih=>
   intro x hx hn;rw[AB,hn]
   refine .abU fun i hi=>?_
   obtain⟨d,op,e1,e2,e3⟩:=ack (names:=names) hF hN x hx i hi;obtain⟨⟨a1,a2⟩,a3⟩:=(ha x hx).2 i hi;refine⟨d,op,_,_,e1,e2,?_⟩;rw[e3]
   have a4:13-(jE i x).1.length=n:=by simp at a3;omega
   have:=ih _ a1 a4;rw[AB,a4]at this;exact this.perm a2.symm
 have h:=key 13 ([],[]) (by decide) rfl;rw[AB,j8,List.flatMap_nil,eL]at h;exact iU.all h
set_option maxRecDepth 8000 in
theorem T2(m:Md)(hI:m.ak.length<2^18)(hL:m.ai.length<2^18)(hO:m.aq.length<2^30)(og:m.g.Ok)(hl:(m.ak++m.ai).length+1=m.g.first):
 aN Tryz.prog Γ mw [cp m] (kY (Rm.begin (m.ak++m.ai) m.aq (ju (m.ak++m.ai) (m.ak++m.ai).length (List.replicate (2*(m.g.first+m.g.ands.length)) [])))):=by
 have oi:=og.ins;have osum:=og.sum
 have hfs:m.g.first<=4001:=by unfold Gr.first;omega
 have hF:=mA (Γ:=Γ) m.g oi.1 oi.2 (by omega);have h1:m.kI=1\/m.ak=[]:=m.hI;have h2:m.kL=1\/m.ai=[]:=m.hL
 have hbd:(m.ak.length+m.ai.length)*16<=140737488355328:=by omega
 have fin:aB Tryz.prog Γ (.fr ⟨.run,mw,[.code (.eH B3 wX),.code (((an.ae mf).seq (an.block 0 GL (an.loop G_ BC))).seq ((an.ae GW).seq ((an.ae GQ).seq an.ret)))],tB (m.ak++m.ai).length U U U U U U U U U U U U,[],.norm,0⟩ [] (iZ m (m.ak++m.ai))) (.ret (kY (Rm.begin (m.ak++m.ai) m.aq (ju (m.ak++m.ai) (m.ak++m.ai).length (List.replicate (2*(m.g.first+m.g.ands.length)) []))))):=by
  have hlen:(m.ak++m.ai).length<2^20:=by rw[bp];omega
  generalize m.ak++m.ai=names at*;have hh:=abL (Γ:=Γ) m names (List.replicate (2*(m.g.first+m.g.ands.length)) []) hO hlen (by rw[ku];omega) (by rw[ku];omega) names.length 0 (by omega);refine .reach (aaQ (m:=m) (names:=names) hF (by omega) (by simp) (.refl _)) ?_;refine .go 60 ?_;simp;refine .inLoop ?_;simp[ju]at hh⊢;exact hh
 refine .run 60 TO (by simp) ?_
 by_cases hq:m.ak=[]
 ·by_cases hr:m.ai=[]
  ·simp[hq,hr];refine .nS [0,6,7,8,9,10,11,12,13] ?_;simp[iZ,hq,hr]at fin;simp[nQ];exact fin
  ·have h2':m.kL=1:=h2.resolve_right hr;simp[hq]at hbd;simp(disch:=omega) [h2',hq,hr,hbd];refine .nS [0,6,7,8,9,10,11,12,13] ?_;simp[nQ];refine .iF (i:=5) rfl (by simp) (by simp) (by simp) (by simp) ?_;simp[iZ,hq,h2']at fin⊢;exact fin
 ·have h1':m.kI=1:=h1.resolve_right hq
  by_cases hr:m.ai=[]
  ·simp[hr]at hbd;simp(disch:=omega) [h1',hq,hr,hbd];refine .nS [0,6,7,8,9,10,11,12,13] ?_;simp[nQ];refine .iF (i:=5) rfl (by simp) (by simp) (by simp) (by simp) ?_;simp[iZ,hr,h1']at fin⊢;exact fin
  ·have h2':m.kL=1:=h2.resolve_right hr;simp(disch:=omega) [h1',h2',hq,hr,hbd];refine .nS [0,6,7,8,9,10,11,12,13] ?_;simp[nQ];refine .iF (i:=5) rfl (by simp) (by simp) (by simp) (by simp) ?_;simp[iZ,h1',h2']at fin⊢;exact fin
theorem Rm.zZ(x:Rm)(a:Nat)(op:Int)(ins:List Bs)(ki:Nat)(hi:Kd 1 ki ins):(x.k9 a op ins ki hi).ar.length=x.ar.length/\(x.k9 a op ins ki hi).af.length=x.af.length+1/\(x.k9 a op ins ki hi).used.length=x.used.length+1:=by
 simp[Rm.k9,Rm.jA]
theorem Rm.tw(x:Rm)(a:Nat):(x.aP a).ar.length=x.ar.length/\(x.aP a).af.length<=x.af.length+1/\(x.aP a).used.length<=x.used.length+1:=by
 unfold Rm.aP
 split
 ·exact⟨rfl,by omega,by omega⟩
 ·split
  ·obtain⟨a1,a2,a3⟩:=x.zZ a 0 [] 0 .nil;exact⟨a1,by omega,by omega⟩
  ·split
   ·obtain⟨a1,a2,a3⟩:=x.zZ a 1 [] 0 .nil;exact⟨a1,by omega,by omega⟩
   ·obtain⟨a1,a2,a3⟩:=x.zZ a 3 [x.ar.getD (a-1) []] 1 .self;exact⟨a1,by unfold Rm.wS;omega,by unfold Rm.wS;omega⟩
def Rm.lV(x:Rm)(p q a:Nat):Rm:=((x.aP p).aP q).k9 a 4 [((x.aP p).aP q).ar.getD p [],((x.aP p).aP q).ar.getD q []] 1 .self
def gU(first:Nat):List (Int×Int)->Nat->Rm->Rm
 |[],_,x=>x
 |p::l,i,x=>gU first l (i+1) (x.lV p.1.toNat p.2.toNat (2*(first+i)))
theorem Rm.zF(x:Rm)(p q a:Nat):(x.lV p q a).ar.length=x.ar.length/\(x.lV p q a).af.length<=x.af.length+3/\(x.lV p q a).used.length<=x.used.length+3:=by
 unfold Rm.lV;obtain⟨a1,a2,a3⟩:=x.tw p;obtain⟨b1,b2,b3⟩:=(x.aP p).tw q;obtain⟨c1,c2,c3⟩:=((x.aP p).aP q).zZ a 4 [((x.aP p).aP q).ar.getD p [],((x.aP p).aP q).ar.getD q []] 1 .self;exact⟨by omega,by omega,by omega⟩
abbrev fP(m n:Md)(x:Rm):List Ob:=[.cells (AV.cells (cp m)),.cells [.sl 2 0 0,.sl 3 0 0,.sl 4 0 0,.sl 5 0 0],.row 1 au [] none true false,.row 1 au [] none true false,.row 3 hY [] none true false,.row 5 dB [] none true false,
 .cells (AV.cells (cp n)),.row 1 az [] none true false,.row 1 az [] none true false,.row 2 bI [] none true false,.row 1 az [] none true false,.row 1 au [] none true false,.row 1 au [] none true false,.row 1 au [] none true false,
 .cells (AV.cells (kY x)),.row 5 dB [] none true false,.row 1 au [] none true false,.row 1 au [] none true false]
set_option maxRecDepth 8000 in
theorem abq(m n:Md)(hn:n.g.ands.length<=4000)(N:Nat)(hN:N<=2^18)(first:Nat)(hf:2*(first+n.g.ands.length)<=N)
 (hA:∀j(h:j<n.g.ands.length),(0<=n.g.ands[j].1/\n.g.ands[j].1<N)/\0<=n.g.ands[j].2/\n.g.ands[j].2<N):∀k i:Nat,i+k=n.g.ands.length->∀x:Rm,x.ar.length=N->x.af.length<=3*i->x.used.length<=20000+3*i->
 AM.Reach Tryz.prog Γ (ycE (.ptr 1 0) (.ptr 6 0) (.ptr 14 0) (.int .i64 first) (.int .i64 i) (fP m n x) ⟨[],.norm,0,[]⟩) (ycF (.ptr 1 0) (.ptr 6 0) (.ptr 14 0) (fP m n (gU first (n.g.ands.drop i) i x)) ⟨[],.norm,0,[]⟩):=by
 intro k
 induction k with
 |zero=>
  intro i hi x h1 h2 h3
  have q1:¬i<n.g.ands.length:=by omega
  rw[bq (by omega),gU];refine .gk 60 ?_;simp[q1,fP];exact .exit rfl rfl
 |succ k ih=>
  intro i hi x h1 h2 h3
  have q1:i<n.g.ands.length:=by omega
  have q2:=bl (n.g.ha.of q1);obtain⟨⟨a1,a2⟩,a3,a4⟩:=hA i q1;obtain⟨p,hp⟩:=cS a1;obtain⟨q,hq⟩:=cS a3;rw[br q1,gU,hp,hq];simp only[cZ];have fx:x.dJ:=⟨by omega,by omega,by omega⟩;have w1:=C0 (Γ:=Γ) x fx p (by omega);obtain⟨l1,l2,l3⟩:=x.tw p;have fy:(x.aP p).dJ:=⟨by omega,by omega,by omega⟩;have w2:=C0 (Γ:=Γ) (x.aP p) fy q (by omega);obtain⟨m1,m2,m3⟩:=(x.aP p).tw q;have fz:((x.aP p).aP q).dJ:=⟨by omega,by omega,by omega⟩;have w3:=y9 (Γ:=Γ) ((x.aP p).aP q) fz (2*(first+i)) (by omega) 4 [((x.aP p).aP q).ar.getD p [],((x.aP p).aP q).ar.getD q []] (fl:=false) (ki:=1) .self
  have hh:=ih (i+1) (by omega) (x.lV p q (2*(first+i))) (by rw[(x.zF p q _).1,h1]) (by have:=(x.zF p q (2*(first+i))).2.1;omega) (by have:=(x.zF p q (2*(first+i))).2.2;omega);have hza:x.lV p q (2*(first+i))=((x.aP p).aP q).k9 (2*(first+i)) 4 [((x.aP p).aP q).ar.getD p [],((x.aP p).aP q).ar.getD q []] 1 .self:=rfl
  have hpz:p<((x.aP p).aP q).ar.length:=by omega
  have hqz:q<((x.aP p).aP q).ar.length:=by omega
  rw[<-hza]at w3;generalize x.lV p q (2*(first+i))=W at*;generalize(x.aP p).aP q=Z at*;generalize x.aP p=Y at*;have hkz:Z.kN=1:=(show Z.kN=1\/Z.ar=[]from Z.hN).resolve_right (by intro h;rw[h]at hpz;simp at hpz)
  have e3:Z.ar.getD p []=Z.ar[p]:=by simp[List.getD,hpz]
  have e4:Z.ar.getD q []=Z.ar[q]:=by simp[List.getD,hqz]
  rw[e3,e4]at w3
  have e5:(2*((first:Int)+(i:Int)))=((2*(first+i):Nat):Int):=by omega
  have e6:IntKind.i64.wrap ((first:Int)+(i:Int))=(first:Int)+i:=wrap64 (by omega) (by omega);have e7:IntKind.i64.wrap ((2*(first+i):Nat):Int)=((2*(first+i):Nat):Int):=wrap64 (by omega) (by omega);obtain⟨t,ht⟩:∃t,t=2*(first+i):=⟨_,rfl⟩;rw[<-ht]at e5 e7 w3;refine .gk 60 ?_;simp[q1,q2,fP,hp,hq];refine .call 60 (by simp) w1 ?_;simp;refine .call 60 (by simp) w2 ?_;simp;refine .pw 60 ?_;simp[hkz,hpz,hqz,e5,e6,e7];refine gm.call (by simp[hkz]) w3 ?_;simp;refine .aT ?_;simp;refine .abp 18 rfl (by simp) (by simp) (by simp) ?_;simp(disch:=omega) [fP]at hh⊢;exact hh
def er:List Bs->List Int->List Int->Rm->List Lt->Rm×List Lt
 |s::l,a::r,b::t,x,acc=>er l r t (x.aP a.toNat) (acc++[⟨s,(x.aP a.toNat).ar.getD a.toNat [],b⟩])
 |_,_,_,x,acc=>(x,acc)
abbrev gW(m n:Md)(x:Rm)(ls:List Lt):List Ob:=fP m n x++[.cells [.list false n.kI (n.ak.map .str),.list false n.kO (n.aq.map .str),if ls.length=0 then .list true 0 []else .sl 23 0 ls.length,.list true 0 []],.row 1 au [] none true false,.row 1 au [] none true false,.row 3 hY [] none true false,.row 5 dB [] none true false]++(if ls.length=0 then[]else[.row 3 hY (ls.map na) none true false])
set_option maxRecDepth 8000 in
theorem aaP(m n:Md)(hl:n.ai.length=n.g.next.length)(hi0:n.g.init.length=n.g.next.length)(hl2:n.ai.length<=4000)(N:Nat)(hN:N<=2^18)
 (hA:∀a∈n.g.next,0<=a/\a<N):∀k i:Nat,i+k=n.ai.length->∀(x:Rm)(ls:List Lt),ls.length=i->x.ar.length=N->x.af.length<=2^17+i->x.used.length<=2^17+i->
 AM.Reach Tryz.prog Γ (ycB (.ptr 1 0) (.ptr 6 0) (.ptr 14 0) (.ptr 18 0) (.int .i64 i) (gW m n x ls) ⟨[],.norm,0,[]⟩) (ycC (.ptr 1 0) (.ptr 6 0) (.ptr 14 0) (.ptr 18 0) (gW m n (er (n.ai.drop i) (n.g.next.drop i) (n.g.init.drop i) x ls).1 (er (n.ai.drop i) (n.g.next.drop i) (n.g.init.drop i) x ls).2) ⟨[],.norm,0,[]⟩):=by
 intro k
 induction k with
 |zero=>
  intro i hi x ls h0 h1 h2 h3
  have q1:¬i<n.ai.length:=by omega
  rw[bq (by omega),er]
  ·refine .gk 60 ?_
   by_cases hz:ls.length=0
   ·simp[q1,gW,fP,hz];exact .exit rfl rfl
   ·simp[q1,gW,fP,hz];exact .exit rfl rfl
  ·intro s l a r b t h;cases h
 |succ k ih=>
  intro i hi x ls h0 h1 h2 h3
  have q1:i<n.ai.length:=by omega
  have q2:=bl (n.hL.of q1)
  have q3:i<n.g.next.length:=by omega
  have q4:=bl (n.g.hn.of q3)
  have q5:i<n.g.init.length:=by omega
  have q6:=bl (n.g.hi.of q5);obtain⟨a1,a2⟩:=hA _ (bZ q3);obtain⟨p,hp⟩:=cS a1;rw[br q1,br q3,br q5,er,hp];simp only[cZ];have fx:x.dJ:=⟨by omega,by omega,by omega⟩;have w1:=C0 (Γ:=Γ) x fx p (by omega);obtain⟨l1,l2,l3⟩:=x.tw p;have hh:=ih (i+1) (by omega) (x.aP p) (ls++[⟨n.ai[i],(x.aP p).ar.getD p [],n.g.init[i]⟩]) (by simp[h0]) (by omega) (by omega) (by omega)
  have hpz:p<(x.aP p).ar.length:=by omega
  generalize x.aP p=Z at*;have hkz:Z.kN=1:=(show Z.kN=1\/Z.ar=[]from Z.hN).resolve_right (by intro h;rw[h]at hpz;simp at hpz)
  have e3:Z.ar.getD p []=Z.ar[p]:=by simp[List.getD,hpz]
  rw[e3]at hh⊢
  have b1:(ls.length+1)*40<=140737488355328:=by omega
  by_cases hz:ls.length=0
  ·have hz2:ls=[]:=k_.1 hz;subst hz2;refine .gk 60 ?_;simp[q1,q2,q3,q4,gW,fP,hp];refine .pw 60 ?_;simp[q1,q2,q3,q4,q5,q6,hp];refine gm.call (by simp) w1 ?_;simp;refine .pw 60 ?_;simp(disch:=omega) [q1,q2,q3,q4,q5,q6,hp,hkz,hpz];refine .aT ?_;simp(disch:=omega) [gW,fP,hkz]at hh⊢;exact hh
  ·refine .gk 60 ?_;simp[q1,q2,q3,q4,gW,fP,hp,hz];refine .pw 60 ?_;simp[q1,q2,q3,q4,q5,q6,hp,hz];refine gm.call (by simp) w1 ?_;simp;refine .pw 60 ?_;simp(disch:=omega) [q1,q2,q3,q4,q5,q6,hp,hkz,hpz,b1,hz];refine .aT ?_;simp;refine .Ad (i:=23) rfl (by simp) (by simp) (by simp) ?_;simp(disch:=omega) [gW,fP,hkz,hz]at hh⊢;exact hh
def j0(n:Md):List Bs->List Int->Rm->Rm
 |s::l,a::r,x=>j0 n l r (if cA n s<0 then x.out s a.toNat else x)
 |_,_,x=>x
theorem Rm.Mu(x:Rm)(s:Bs)(a:Nat):(x.out s a).ar.length=x.ar.length/\(x.out s a).af.length=x.af.length+1/\(x.out s a).used.length=x.used.length:=by
 simp[Rm.out,Rm.plus]
set_option maxRecDepth 8000 in
theorem abX(m n:Md)(ls:List Lt)(hI:n.ak.length<2^30)(hL:n.ai.length<2^30)(ho:n.aq.length=n.g.outs.length)(hl2:n.aq.length<=4000)(N:Nat)(hN:N<=2^18)
 (hA:∀a∈n.g.outs,0<=a/\a<N):∀k i:Nat,i+k=n.aq.length->∀x:Rm,x.ar.length=N->x.af.length<=2^18+i->x.used.length<=2^18->
 AM.Reach Tryz.prog Γ (ycy (.ptr 1 0) (.ptr 6 0) (.ptr 14 0) (.ptr 18 0) (.int .i64 i) (gW m n x ls) ⟨[],.norm,0,[]⟩) (ycz (.ptr 1 0) (.ptr 14 0) (.ptr 18 0) (gW m n (j0 n (n.aq.drop i) (n.g.outs.drop i) x) ls) ⟨[],.norm,0,[]⟩):=by
 intro k
 induction k with
 |zero=>
  intro i hi x h1 h2 h3
  have q1:¬i<n.aq.length:=by omega
  rw[bq (by omega),j0]
  ·refine .gk 60 ?_;simp[q1,gW,fP];exact .exit rfl rfl
  ·intro s l a r h;cases h
 |succ k ih=>
  intro i hi x h1 h2 h3
  have q1:i<n.aq.length:=by omega
  have q2:=bl (n.hO.of q1)
  have q3:i<n.g.outs.length:=by omega
  have q4:=bl (n.g.ho.of q3);obtain⟨a1,a2⟩:=hA _ (bZ q3);obtain⟨p,hp⟩:=cS a1;rw[br q1,br q3,j0,hp];simp only[cZ];have hP:=I7 (Γ:=Γ) n n.aq[i] hI hL;have fx:x.dJ:=⟨by omega,by omega,by omega⟩;have w1:=Ts (Γ:=Γ) x fx n.aq[i] p (by omega);obtain⟨l1,l2,l3⟩:=x.Mu n.aq[i] p
  by_cases h0:cA n n.aq[i]<0
  ·have hh:=ih (i+1) (by omega) (x.out n.aq[i] p) (by omega) (by omega) (by omega);rw[if_pos h0];generalize x.out n.aq[i] p=Z at*;generalize cA n n.aq[i]=pl at*;refine .gk 60 ?_;simp[q1,q2,gW,fP];refine .pw 60 ?_;simp[q1,q2];refine gm.call (by simp) hP ?_;simp[h0,q1,q2,q3,q4,hp];refine .pw 60 ?_;simp[q1,q2,q3,q4,hp];refine gm.call (by simp) w1 ?_;simp;refine .aT ?_;simp(disch:=omega) [gW,fP]at hh⊢;exact hh
  ·have hh:=ih (i+1) (by omega) x h1 (by omega) (by omega);rw[if_neg h0];generalize cA n n.aq[i]=pl at*;refine .gk 60 ?_;simp[q1,q2,gW,fP];refine .pw 60 ?_;simp[q1,q2];refine gm.call (by simp) hP ?_;simp[h0];refine .aT ?_;simp(disch:=omega) [gW,fP]at hh⊢;exact hh
end Go.Proofs.YtchjijfjidlpjaaGreatDoor
