/- Steps: steps, one after the other. -/
import Derived.Test.YtihmomicdpkabaaGreatDoorJ
import Derived.Test.YtihmomicdpkabaaGreatDoorI
import Derived.Test.YtihmomicdpkabaaGreatDoorG
import Derived.Test.YtihmomicdpkabaaGreatDoorH
import Derived.JoinedCond
set_option linter.unusedSimpArgs false
set_option linter.unusedVariables false
namespace Go.Proofs.YtihmomicdpkabaaGreatDoor
open Go.AM Go.Proofs
variable{Γ:Nat->Option AV}
def de(c:Ct):List (Nat×List Bool)->List Bool->List (List Bool)×List Bool×Int
 |[],s=>([],s,0)
 |i::r,s=>if n5 c i.2 s=true then(kV c i.2 s::(de c r (lI c i.2 s)).1,(de c r (lI c i.2 s)).2)else([],s,11)
abbrev vl(x:List Bool):AV:=.list false 1 (x.map .bool)
abbrev loR:List AV:=[U,U,U,U,.ptr 1 0,U,.sl 2 0 0,.sl 3 0 0,.int .i64 0,U,U,.ptr 6 0,U,U,U,U,U,U,U,U,U,U,U,U,U,U,U,U,U,U,U,U,U,U,U,U,U,U,U,U,U,U,U,U,U,U,U,U,U,U,U]
abbrev C4(c:Ct)(N:List Bs)(l:List Nat)(kq:Nat)(seq:List (Nat×List Bool))(acc:List (List Bool))(k:Nat)(s:List Bool)(e:Int):List Ob:=[.cells (AV.cells (bH c)),.cells [.list false k (s.map .bool)],.row 1 kK [] none true false,.row 1 aV [] none true false,fw c N l,.cells [.int .i64 e],
 .cells [.sl 7 0 acc.length],.row 1 kK (acc.map vl) none true false,.cells [.ptr 4 0],.cells [.list false k (s.map .bool)],.cells [.list false kq (seq.map gR)],.cells [.ptr 5 0],.bA true,.loop .ready .none tJ loR [38,39] R1 TB]
@[simp] theorem azZ(n:Nat)(c:Ct)(N:List Bs)(l:List Nat):gC n (fw c N l)=true:=by simp[fw]
@[simp] theorem azF(n m:Nat)(c:Ct)(N:List Bs)(l:List Nat):lQ n m (fw c N l)=true:=by simp[fw]
set_option maxRecDepth 8000 in
theorem agE(hΓ:ek Γ)(c:Ct)(hc:bX c)(ok:eN c)(fr:Fr)(hf7:∀m,fX 7 m fr=true){kq:Nat}(seq:List (Nat×List Bool))(hkq:Kd 1 kq seq)(hqk:∀x∈seq,Kd 1 x.1 x.2/\x.2.length<2^40)(hql:seq.length<=40):∀n i:Nat,i+n=seq.length->∀(acc:List (List Bool))(k:Nat)(s:List Bool),acc.length<=i->Kd 1 k s->s.length=c.ai.length->∃k' os,Kd 1 k' (de c (seq.drop i) s).2.1/\
 AM.Reach Tryz.prog Γ (ytH (.cR 13) (.ptr 8 0) (.ptr 9 0) (.ptr 11 0) (.list false kq (seq.map gR)) (.int .i64 seq.length) (.int .i64 i) (C4 c (aD c) (aP c) kq seq acc k s 0) ⟨[],.norm,14,[fr]⟩)
  (.back [fr] (.aB []) (C4 c (aD c) (aP c) kq seq (acc++(de c (seq.drop i) s).1) k' (de c (seq.drop i) s).2.1 (de c (seq.drop i) s).2.2++os)):=by
 have b2:=hc.2.2.1;intro n
 induction n with
 |zero=>
  intro i hi acc k s ha hk hs
  have q1:¬i<seq.length:=by omega
  rw[br (by omega),de,eS];refine⟨k,[],hk,?_⟩;rw[eS];refine .aR 60 ?_;simp[q1]
 |succ n ih=>
  intro i hi acc k s ha hk hs
  have q1:i<seq.length:=by omega
  have q2:=bP (hkq.of q1);obtain⟨hki,hkl⟩:=hqk _ (bx q1);have hM:=aey hΓ c hc ok seq[i].2 s hkl (by omega) (fi:=false) (fs:=false) hki hk (j:=4) (h:=C4 c (aD c) (aP c) kq seq acc k s 0) rfl (by intro n hn;simp at hn;simp[fw];omega) (by intro n m hn;simp at hn;simp[fw];omega);rw[bL q1,de];unfold dC at hM;generalize aD c=N at*;generalize aP c=l at*
  cases hlens:n5 c seq[i].2 s with
  |false=>
   rw[hlens]at hM;refine⟨k,[np [],np []],hk,?_⟩;simp at hM⊢;refine .aR 60 ?_;simp[q1,q2];refine .aX 60 hM ?_;simp
  |true=>
   rw[hlens]at hM;obtain⟨k',os,hk',hh⟩:=ih (i+1) (by omega) (acc++[kV c seq[i].2 s]) 1 (lI c seq[i].2 s) (by simp;omega) .self (tU _ _ _);refine⟨k',os,hk',?_⟩;clear hk'
   have hol:(kV c seq[i].2 s).length=c.bf.length:=by simp[kV,eX]
   have hnl:=tU c seq[i].2 s;generalize de c (seq.drop (i+1)) (lI c seq[i].2 s)=R at*;generalize kV c seq[i].2 s=PO at*;generalize lI c seq[i].2 s=PN at*;simp at hM⊢;refine .aR 60 ?_;simp[q1,q2];refine .aX 10 hM ?_;simp[np];refine .trees [8,9] ?_;have htkO:(PO.map AV.bool).take c.bf.length=PO.map AV.bool:=bR (by simp[hol]);have htkN:(PN.map AV.bool).take c.ai.length=PN.map AV.bool:=bR (by simp[hnl])
   have hle:(acc.length+1)*24<=140737488355328:=by omega
   simp[hol,hnl,htkO,htkN];refine .aR 60 ?_;simp[hle];refine .trans (.pop _) ?_;simp;refine .aR 60 ?_;simp(disch:=omega);refine .aF ?_;simp;refine .jz 14 (by simp;rfl) (by simp) (by simp) (by simp[fw]) ?_;refine .Bf (i:=7) rfl (by simp) (by have h7:=hf7 (acc.length+1);simp at h7⊢;exact h7) (by simp[fw]) ?_;simp[C4]at hh⊢;exact hh
theorem adA{P:Program}{c:AM.an}{o:Out}{p:Nat->Prop}{f:Nat->List Ob->AM.an}(h:∃k,p k/\∃os,AM.Reach P Γ c (f k os))(h2:∀k os,p k->aw P Γ (f k os) o):aw P Γ c o:=by
 obtain⟨k,hk,os,h1⟩:=h;exact .reach h1 (h2 k os hk)
def uQ(c:Ct)(state:List Bool)(seq:List (Nat×List Bool)):List (List Bool)×List Bool×Int:=
 if hY c=true then(if seq.length<=40 then(if state.length=c.ai.length then(if(de c seq state).2.2=0 then de c seq state else([],[],(de c seq state).2.2))else([],[],11))else([],[],8))else([],[],1)
theorem FF(c:Ct):∀(seq:List (Nat×List Bool))(s:List Bool),s.length=c.ai.length->(de c seq s).2.1.length=c.ai.length
 |[],s,h=>h
 |i::r,s,h=>by
  rw[de]
  split
  ·exact FF c r _ (tU _ _ _)
  ·exact h
theorem Og(c:Ct):∀(seq:List (Nat×List Bool))(s:List Bool),(de c seq s).1.length<=seq.length
 |[],s=>by simp[de]
 |i::r,s=>by
  rw[de]
  split
  ·have:=Og c r (lI c i.2 s);simp;omega
  ·simp
set_option maxRecDepth 8000 in
theorem X0(hΓ:ek Γ)(c:Ct)(hb:h_ c)(ho:hY c=true)(state:List Bool)(seq:List (Nat×List Bool))(hs2:state.length<2^40){ks kq:Nat}(hks:Kd 1 ks state)(hkq:Kd 1 kq seq)(hqk:∀x∈seq,Kd 1 x.1 x.2/\x.2.length<2^40)(hl:state.length=c.ai.length)(hq:seq.length<=40):
 aM Tryz.prog Γ tJ [bH c,.list false ks (state.map .bool),.list false kq (seq.map gR)] (.aB [.own 1 kK ((if(de c seq state).2.2=0 then(de c seq state).1 else[]).map vl),.own 1 aV ((if(de c seq state).2.2=0 then(de c seq state).2.1 else[]).map .bool),.int .i64 (de c seq state).2.2]):=by
 obtain⟨hr,_,_⟩:=uC ho;obtain⟨ok,_⟩:=w6 hr;have hc:=rJ hb hr;have b2:=hb.2.2.1;have e1:((state.length:Int)=c.ai.length)=True:=bP (by omega);have e2:((40:Int)<seq.length)=False:=ie (by omega);have hB:=OU hΓ c hb ho (h:=[.cells (AV.cells (bH c)),.cells [.list false ks (state.map .bool)],.row 1 kK [] none true false,.row 1 aV [] none true false]) (by intro n hn;simp) (by intro n k hn;simp);simp at hB;have hRl:=FF c seq state hl
 have h0:=fun fr hf=>agE hΓ c hc ok fr hf (kq:=kq) seq hkq hqk hq seq.length 0 (by omega) [] ks state (by simp) hks hl
 rw[eT]at h0;generalize de c seq state=R at*;obtain⟨ro,rs,re⟩:=R;generalize aD c=N at*;generalize aP c=l at*;simp at h0 hRl;refine .run 60 An (by simp) ?_;simp;refine .aX 90 hB ?_;simp[e1,e2];refine .enter 60 U2 ?_;simp;refine .enter 60 UR ?_;simp;refine .inLoop ?_;simp;refine adA (h0 _ ?_) (fun k' os hk'=>?_)
 ·intro m;simp
 have htl:(ro.map vl).take ro.length=ro.map vl:=bR (by simp)
 by_cases h00:re=0
 ·refine .go 60 ?_;simp[h00];refine .drop 14 (by simp;rfl) (by simp) (by simp) (by simp[fw]) ?_;refine .dr 60 ?_;simp;refine .call (by simp) (UK rs hk' (by omega)) ?_;simp;exact .back (by simp[htl])
 ·refine .go 60 ?_;simp[h00];refine .drop 14 (by simp;rfl) (by simp) (by simp) (by simp[fw]) ?_;refine .dr 60 ?_;simp;exact .back (by simp)
theorem YV(hΓ:ek Γ)(c:Ct)(hb:h_ c)(state:List Bool)(seq:List (Nat×List Bool))(hs2:state.length<2^40)(hq2:seq.length<2^40){ks kq:Nat}(hks:Kd 1 ks state)(hkq:Kd 1 kq seq)(hqk:∀x∈seq,Kd 1 x.1 x.2/\x.2.length<2^40):
 aM Tryz.prog Γ tJ [bH c,.list false ks (state.map .bool),.list false kq (seq.map gR)] (.aB [.own 1 kK ((uQ c state seq).1.map vl),.own 1 aV ((uQ c state seq).2.1.map .bool),.int .i64 (uQ c state seq).2.2]):=by
 have b2:=hb.2.2.1;have e1:((state.length:Int)=c.ai.length)=(state.length=c.ai.length):=propext (by omega);have e2:((40:Int)<seq.length)=(40<seq.length):=propext (by omega);unfold uQ
 cases ho:hY c with
 |false=>
  have hB:=abn hΓ c hb ho (h:=[.cells (AV.cells (bH c)),.cells [.list false ks (state.map .bool)],.row 1 kK [] none true false,.row 1 aV [] none true false]);simp at hB;refine .run 60 An (by simp) ?_;simp;refine .aX 90 hB ?_;simp;refine .dr 60 ?_;simp;exact .back (by simp)
 |true=>
  obtain⟨hr,_,_⟩:=uC ho;have hB:=OU hΓ c hb ho (h:=[.cells (AV.cells (bH c)),.cells [.list false ks (state.map .bool)],.row 1 kK [] none true false,.row 1 aV [] none true false]) (by intro n hn;simp) (by intro n k hn;simp);simp at hB
  by_cases hq:seq.length<=40
  ·by_cases hl:state.length=c.ai.length
   ·have:=X0 hΓ c hb ho state seq hs2 hks hkq hqk hl hq;rw[if_pos rfl,if_pos hq,if_pos hl]
    by_cases h0:(de c seq state).2.2=0
    ·rw[if_pos h0];rw[if_pos h0,if_pos h0]at this;exact this
    ·rw[if_neg h0];rw[if_neg h0,if_neg h0]at this;exact this
   ·have hq':¬40<seq.length:=by omega
    rw[if_pos rfl,if_pos hq,if_neg hl];refine .run 60 An (by simp) ?_;simp;refine .aX 90 hB ?_;simp[e1,e2,hq',hl];exact .back (by simp)
  ·have hq':40<seq.length:=by omega
   rw[if_pos rfl,if_neg hq];refine .run 60 An (by simp) ?_;simp;refine .aX 90 hB ?_;simp[e1,e2,hq'];exact .back (by simp)
def xJ(seq:List (Nat×List Bool))(m:Nat):Bool:=(seq.take (m+1)).all (fun x=>decide (x.2.length<=60))&&decide (seq.length<=m)
theorem ZZ{seq:List (Nat×List Bool)}{m:Nat}(h:xJ seq m=true):seq.length<=m/\∀x∈seq,x.2.length<=60:=by
 simp only[xJ,av,bj]at h;rw[bR (by omega),dw]at h;exact⟨h.2,fun x hx=>by simpa using h.1 x hx⟩
set_option maxRecDepth 8000 in
theorem Zb(seq:List (Nat×List Bool)){kq:Nat}(hkq:Kd 1 kq seq)(m:Nat)(hm:m<2^40):aM Tryz.prog Γ wC [.list false kq (seq.map gR),.int .i64 m] (.bool (xJ seq m)):=by
 have e1:((seq.length:Int)<=m)=(seq.length<=m):=propext (by omega);have hlen:(seq.take (m+1)).length=min (m+1) seq.length:=fI
 have key:∀n i:Nat,i+n=(seq.take (m+1)).length->aw Tryz.prog Γ (yeF (.list false kq (seq.map gR)) (.int .i64 m) (.int .i64 i) []) (.ret (.bool (((seq.take (m+1)).drop i).all (fun x=>decide (x.2.length<=60))&&decide (seq.length<=m)))):=by
  intro n
  induction n with
  |zero=>
   intro i hi;rw[br (by omega)];refine .go 60 ?_
   by_cases q1:i<seq.length
   ·have q2:¬i<=m:=by omega
    have q3:¬(i:Int)<=m:=by omega
    simp[q1,q2,q3,e1];exact .back (by simp)
   ·simp[q1,e1];exact .back (by simp)
  |succ n ih=>
   intro i hi
   have q1:i<seq.length:=by omega
   have q2:i<=m:=by omega
   have q3:(i:Int)<=m:=by omega
   have q4:=bP (hkq.of q1);have hh:=ih (i+1) (by omega);rw[bL (by omega:i<(seq.take (m+1)).length),pR,ox];refine .go 60 ?_
   by_cases h6:seq[i].2.length<=60
   ·have h6':¬60<seq[i].2.length:=by omega
    have h6'':¬(60:Int)<seq[i].2.length:=by omega
    simp(disch:=omega) [q1,q2,q3,q4,h6,h6',h6''];refine .aF ?_;simp at hh⊢;exact hh
   ·have h6':60<seq[i].2.length:=by omega
    have h6'':(60:Int)<seq[i].2.length:=by omega
    simp(disch:=omega) [q1,q2,q3,q4,h6,h6',h6''];exact .back (by simp[h6'])
 refine .run 60 Y1 (by simp) ?_;simp;refine .inLoop ?_;have hh:=key (seq.take (m+1)).length 0 (by omega);unfold xJ;rw[eT]at hh;generalize(seq.take (m+1)).all (fun x=>decide (x.2.length<=60))=b at*;simp at hh⊢;exact hh
end Go.Proofs.YtihmomicdpkabaaGreatDoor
namespace Go.Proofs.YtihmomicdpkabaaGreatDoor
open Go.AM Go.Proofs
def bJ(v0:List Bool)(x:Gr)(a:Nat):Bool:=bG (bM x.ands v0) a
structure V0(x:Gr)(v0:List Bool):Prop where
 len:v0.length=x.first
 zero:bG v0 0=false
theorem V0.grow{x y:Gr}{v0:List Bool}(h:V0 x v0)(g:gO x y):V0 y v0:=⟨by rw[g.first];exact h.len,h.zero⟩
theorem oZ{x y:Gr}(g:gO x y){v0:List Bool}(hv:V0 x v0){c:Nat}(hc:c<x.lits):bJ v0 y c=bJ v0 x c:=by
 obtain⟨e,he⟩:=g.ands;unfold bJ;rw[he,tx];refine tY e ?_;rw[rM,hv.len];unfold Gr.lits Gr.all at hc;omega
theorem l9{v0:List Bool}{x:Gr}{a:Nat}:bJ v0 x (a^^^1)=!bJ v0 x a:=A3
theorem Ma{v0:List Bool}{x:Gr}{a t:Nat}(ht:t<=1):bJ v0 x (a^^^t)=(bJ v0 x a !=decide (t=1)):=by
 obtain rfl|rfl:t=0\/t=1:=by omega
 ·simp
 ·rw[l9];simp
theorem EJ{v0:List Bool}{x:Gr}(hv:V0 x v0):bJ v0 x 0=false:=by
 unfold bJ;rw[tY _ (by rw[hv.len];unfold Gr.first;omega),hv.zero]
theorem AP{x y:Gr}{v0:List Bool}(ok:x.Ok)(hv:V0 x v0){p q d:Nat}(h:gV x p q=(y,some d)):bJ v0 y d=(bJ v0 x p&&bJ v0 x q):=by
 obtain⟨he,rfl,rfl⟩:=ZC h;have a:=PH he
 have hf1:1<=x.first:=by unfold Gr.first;omega
 have h1:=a.a1;have h2:=a.b1;simp only[Gr.lits,Gr.all]at h1 h2;unfold bJ;rw[a.R,a.C];have:=MK (first:=x.first) (l:=x.ands) hv.len hv.zero hf1 (fun i hi=>ok.ands i hi) (a:=p) (b:=q) (by omega) (by omega);simpa using this
theorem Ly{turn:Nat}(ht:turn<=1){v0:List Bool}:∀(l:List Nat)(x y:Gr)(c d:Nat),x.Ok->V0 x v0->c<x.lits->(∀a∈l,a<x.lits)->lJ turn x c l=(y,some d)->bJ v0 y d=(bJ v0 x c&&l.all fun a=>bJ v0 x (a^^^turn))
 |[],x,y,c,d,ok,hv,hc,hl,h=>by
  rw[lJ]at h;cases h;simp
 |a::l,x,y,c,d,ok,hv,hc,hl,h=>by
  rw[lJ]at h
  cases h1:gV x c (a^^^turn)with
  |mk z r=>
   rw[h1]at h
   cases r with
   |none=>cases h
   |some e=>
    obtain⟨g1,g2⟩:=oP ok h1;have ih:=Ly ht l z y e d g1.ok (hv.grow g1) (g2 e rfl) (fun b hb=>kv (hl b (by simp[hb])) g1.lits) h;rw[ih,AP ok hv h1,pR,nL];congr 2;rw[fJ,dw,dw]
    have e1:∀b∈l,bJ v0 z (b^^^turn)=bJ v0 x (b^^^turn):=fun b hb=>oZ g1 hv (um (n:=x.all) ht (hl b (by simp[hb])))
    exact⟨fun h b hb=>by rw[<-e1 b hb];exact h b hb,fun h b hb=>by rw[e1 b hb];exact h b hb⟩
theorem Av{turn:Nat}(ht:turn<=1){v0:List Bool}{l:List Nat}(h0:l≠[]){x y:Gr}{d:Nat}(ok:x.Ok)(hv:V0 x v0)(hl:∀a∈l,a<x.lits)(h:jJ turn x l=(y,some d)):bJ v0 y d=l.all fun a=>bJ v0 x (a^^^turn):=by
 cases l with
 |nil=>exact absurd rfl h0
 |cons a r=>exact Ly ht r x y _ d ok hv (um (n:=x.all) ht (hl a (by simp))) (fun b hb=>hl b (by simp[hb])) h
theorem tQ{α β:Type}{r:Gr×Option α}{f:Gr->α->Gr×Option β}{y:Gr}{b:β}(h:iq r f=(y,some b)):∃z a,r=(z,some a)/\f z a=(y,some b):=by
 obtain⟨z,o⟩:=r
 cases o with
 |none=>cases h
 |some a=>exact⟨z,a,rfl,h⟩
theorem t_{α β:Type}{r:Gr×Option α}{f:α->β}{y:Gr}{b:β}(h:fV f r=(y,some b)):∃a,r=(y,some a)/\f a=b:=by
 obtain⟨z,o⟩:=r
 cases o with
 |none=>cases h
 |some a=>
  simp only[fV,dv,bT,ak]at h;exact⟨a,by rw[h.1],h.2⟩
theorem acv{x y:Gr}{v0:List Bool}(ok:x.Ok)(hv:V0 x v0){c a d:Nat}(hc:c<x.lits)(ha:a<x.lits)(h:B3 x c a=(y,some d)):bJ v0 y d=(bJ v0 x c !=bJ v0 x a):=by
 obtain⟨z,p,h1,h⟩:=tQ h;obtain⟨w,q,h2,h⟩:=tQ h;obtain⟨e,h3,rfl⟩:=t_ h;obtain⟨g1,b1⟩:=oP ok h1;obtain⟨g2,b2⟩:=oP g1.ok h2;have hp:=b1 p rfl;have hq:=b2 q rfl;have e3:=AP g2.ok ((hv.grow g1).grow g2) h3;have e2:=AP g1.ok (hv.grow g1) h2;have e1:=AP ok hv h1;rw[l9,e3,l9,l9,oZ g2 (hv.grow g1) hp,e2,e1,l9,l9,oZ g1 hv hc,oZ g1 hv ha]
 cases bJ v0 x c<;>cases bJ v0 x a<;>rfl
theorem Nt(v:Bool)(l:List Bool):decide (dP (v::l)%2=1)=(v !=decide (dP l%2=1)):=by
 rw[dP]
 cases v
 ·simp
 ·simp only[cy];rw[fJ];simp;omega
theorem L8{v0:List Bool}:∀(l:List Nat)(x y:Gr)(c d:Nat),x.Ok->V0 x v0->c<x.lits->(∀a∈l,a<x.lits)->po x c l=(y,some d)->bJ v0 y d=(bJ v0 x c !=decide (dP (l.map (bJ v0 x))%2=1))
 |[],x,y,c,d,ok,hv,hc,hl,h=>by
  rw[po]at h;cases h;simp[dP]
 |a::l,x,y,c,d,ok,hv,hc,hl,h=>by
  rw[po]at h;obtain⟨z,e,h1,h⟩:=tQ h;have g:=Mq ok c a;rw[h1]at g;have ih:=L8 l z y e d g.1.ok (hv.grow g.1) (g.2 e rfl) (fun b hb=>kv (hl b (by simp[hb])) g.1.lits) h
  have e1:l.map (bJ v0 z)=l.map (bJ v0 x):=oD fun b hb=>oZ g.1 hv (hl b (by simp[hb]))
  rw[ih,acv ok hv hc (hl a (by simp)) h1,e1,cd,Nt]
  cases bJ v0 x c<;>cases bJ v0 x a<;>simp
theorem aaA{v0:List Bool}{l:List Nat}(h0:l≠[]){x y:Gr}{d:Nat}(ok:x.Ok)(hv:V0 x v0)(hl:∀a∈l,a<x.lits)(h:xI x l=(y,some d)):bJ v0 y d=decide (dP (l.map (bJ v0 x))%2=1):=by
 cases l with
 |nil=>exact absurd rfl h0
 |cons a r=>rw[L8 r x y a d ok hv (hl a (by simp)) (fun b hb=>hl b (by simp[hb])) h,cd,Nt]
theorem N7:∀l:List Bool,decide (dP l=l.length)=l.all id
 |[]=>rfl
 |v::l=>by
  have:=NV l;rw[dP,pR,<-N7 l,bW]
  cases v
  ·have h:¬(0+dP l=l.length+1):=by omega
   simp;omega
  ·have h:(1+dP l=l.length+1)↔dP l=l.length:=by omega
   simp[h]
theorem OP:∀l:List Bool,decide (0<dP l)=l.any id
 |[]=>rfl
 |v::l=>by
  rw[dP,List.any_cons,<-OP l]
  cases v<;>simp<;>omega
theorem abG{n:Int}(h0:0<=n)(h9:n<=9){v0:List Bool}{l:List Nat}(hl0:2<=n->l≠[]){x y:Gr}{d:Nat}(ok:x.Ok)(hv:V0 x v0)(hl:∀a∈l,a<x.lits)(h:qI n x l=(y,some d)):bJ v0 y d=y9 n (l.map (bJ v0 x)):=by
 unfold qI at h;unfold y9
 by_cases c1:n<=1
 ·rw[if_pos c1]at h
  cases h
  rw[if_pos (by omega),EJ hv]
 ·rw[if_neg c1]at h;rw[if_neg (by omega)]
  by_cases c2:n<=5
  ·rw[if_pos c2]at h;rw[if_pos (by omega),Av (by omega) (hl0 (by omega)) ok hv hl h,N7,List.all_map];simp[zx]
  ·rw[if_neg c2]at h;rw[if_neg (by omega)]
   by_cases c3:n<=7
   ·rw[if_pos c3]at h;obtain⟨e,h1,rfl⟩:=t_ h;rw[if_pos (by omega),l9,Av (by omega) (hl0 (by omega)) ok hv hl h1,OP,List.any_map];simp only[l9];rw[fJ];simp
   ·rw[if_neg c3]at h;rw[if_neg (by omega),aaA (hl0 (by omega)) ok hv hl h]
theorem La{α:Type}{p q:α->Bool}:∀{l:List α},(∀s∈l,p s=q s)->bu p l=bu q l
 |[],_=>by simp
 |a::l,h=>by rw[iW,iW,h a (by simp),La fun s hs=>h s (by simp[hs])]
theorem Ee{x y:Gr}(g:gO x y){v0:List Bool}(hv:V0 x v0){l:List Nat}(hl:∀a∈l,a<x.lits):l.map (bJ v0 y)=l.map (bJ v0 x):=oD fun b hb=>oZ g hv (hl b hb)
def NQ(v0:List Bool)(ins:List Nat)(vs:List Bool)(f:Nat):Prop:=
 ∀(x y:Gr)(l:List Fm)(c:Nat)(l':List Fm),x.Ok->V0 x v0->(∀a∈ins,a<x.lits)->ins.map (bJ v0 x)=vs->iJ ins f x l=(y,some (c,l'))->∀(w:Bool)(l2:List Fm),eA ins.length (pG vs) f l=some (w,l2)->bJ v0 y c=w
theorem Lo{v0:List Bool}{ins:List Nat}{vs:List Bool}{f:Nat}(ih:NQ v0 ins vs f)(a:Bool):∀(k:Nat)(x y:Gr)(ks:List Nat)(l:List Fm)(v:Bool)(q:List Nat)(l':List Fm)(w:Bool)(l2:List Fm),x.Ok->V0 x v0->(∀b∈ins,b<x.lits)->ins.map (bJ v0 x)=vs->(∀b∈ks,b<x.lits)->
 j6 (iJ ins f) k x ks l=(y,some (q,l'))->fm (eA ins.length (pG vs) f) a k v l=some (w,l2)->∃new,q=ks++new/\new.length=k/\w=if a=true then v&&new.all (bJ v0 y)else v||new.any (bJ v0 y)
 |0,x,y,ks,l,v,q,l',w,l2,ok,hv,hi,hm,hk,h1,h2=>by
  rw[j6]at h1;rw[fm]at h2
  cases h1;cases h2
  exact⟨[],by simp,rfl,by simp⟩
 |k+1,x,y,ks,l,v,q,l',w,l2,ok,hv,hi,hm,hk,h1,h2=>by
  rw[j6]at h1;rw[fm]at h2;obtain⟨z,p,h3,h1⟩:=tQ h1;obtain⟨c,l1⟩:=p
  cases h4:eA ins.length (pG vs) f l with
  |none=>rw[h4]at h2;cases h2
  |some u=>
   rw[h4]at h2;obtain⟨u1,u2⟩:=u;have e1:=EC ins _ _ f x l z c l1 u1 u2 h3 h4;subst e1;have hf:=rI ins f x l ok hi;rw[h3]at hf;have hc:=hf.2 _ rfl;simp only at hc hf h1 h2;have hz:=ih x z l c l1 ok hv hi hm h3 u1 l1 h4
   have hk2:∀b∈ks++[c],b<z.lits:=fun b hb=>by
    rcases bn.1 hb with hb|hb
    ·exact kv (hk b hb) hf.1.lits
    ·simp only[dG]at hb;subst hb;exact hc
   have hi2:∀b∈ins,b<z.lits:=fun b hb=>kv (hi b hb) hf.1.lits
   obtain⟨new,rfl,hn,rfl⟩:=Lo ih a k z y (ks++[c]) l1 _ q l' w l2 hf.1.ok (hv.grow hf.1) hi2 (by rw[Ee hf.1 hv hi];exact hm) hk2 h1 h2;have g2:=(Al ins (rI ins f) k z (ks++[c]) l1 hf.1.ok hi2 hk2).1;rw[h1]at g2
   have hy:bJ v0 y c=u1:=by rw[oZ g2 (hv.grow hf.1) hc];exact hz
   refine⟨c::new,by simp,by simp[hn],?_⟩;rw[pR,List.any_cons,hy]
   cases a
   ·simp only[ec,db];rw[Bool.or_comm u1 v,Bool.or_assoc]
   ·simp only[cy];rw[Bool.and_comm u1 v,nL]
theorem L7(v0:List Bool)(ins:List Nat)(vs:List Bool):∀f,NQ v0 ins vs f
 |0,x,y,l,c,l',ok,hv,hi,hm,h1,w,l2,h2=>by cases h1
 |f+1,x,y,[],c,l',ok,hv,hi,hm,h1,w,l2,h2=>by cases h1
 |f+1,x,y,t::l,c,l',ok,hv,hi,hm,h1,w,l2,h2=>by
  rw[iJ]at h1;rw[eA]at h2
  split at h2
  ·rename_i ho;unfold eF at ho
   by_cases k2:t.kind=2
   ·rw[if_pos k2]at h1 h2 ho;simp only[av,bj]at ho
    cases h1;cases h2
    have q1:(t.lit/2).toNat<ins.length:=by omega
    subst hm;rw[Ma (by omega)];unfold pG;simp only[bp,vu,bm q1,dv,jU]
    have e1:((t.lit%2).toNat=1)↔t.lit%2=1:=by omega
    simp only[e1]
    cases bJ v0 x ins[(t.lit/2).toNat]<;>simp
   ·rw[if_neg k2]at h1 h2 ho
    by_cases k34:t.kind=3\/t.kind=4
    ·rw[if_neg (by omega)]at h1;rw[if_pos k34]at ho;simp only[av,bj]at ho;obtain⟨z,p,h3,h1⟩:=tQ h1;obtain⟨ks,l1⟩:=p;obtain⟨e,h4,he⟩:=t_ h1;have hkf:=Al ins (rI ins f) t.kids.toNat x [] l ok hi (fun a ha=>by cases ha);rw[h3]at hkf;have hks:=hkf.2 _ rfl;simp only at hks;obtain⟨new,hq,hn,hw⟩:=Lo (L7 v0 ins vs f) _ _ _ _ _ _ _ _ _ _ _ ok hv hi hm (fun a ha=>by cases ha) h3 h2;rw[lq]at hq;rw[<-hq]at hn hw;simp only[bT]at he;obtain⟨rfl,_⟩:=he
     have h0:ks≠[]:=by
      rintro rfl
      simp at hn;omega
     have hvz:=hv.grow hkf.1
     by_cases k3:t.kind=3
     ·rw[if_pos k3]at h4;rw[Av (by omega) h0 hkf.1.ok hvz hks h4,hw];simp[k3]
     ·have k4:t.kind=4:=by omega
      rw[if_neg k3]at h4;obtain⟨e2,h5,rfl⟩:=t_ h4;rw[l9,Av (by omega) h0 hkf.1.ok hvz hks h5,hw];simp only[l9,k4];rw[fJ];simp
    ·rw[if_neg k34]at ho
     split at ho
     ·rename_i k01;simp only[av,bj]at ho;rw[if_pos k01]at h1
      cases h1
      rw[ho.2]at h2;simp only[Int.toNat_zero,fm,ak,bT]at h2;rw[<-h2.1]
      rcases k01 with k|k
      ·rw[k];simpa using EJ hv
      ·rw[k];have:=l9 (v0:=v0) (x:=x) (a:=0);rw[EJ hv]at this;simpa using this
     ·cases ho
  ·cases h2
theorem aal{g:Gt}(hg:jB g=true){v0:List Bool}{ins:List Nat}(hlen:ins.length=g.ins.length){x y:Gr}{d:Nat}(ok:x.Ok)(hv:V0 x v0)(hl:∀a∈ins,a<x.lits)(h:nk x g ins=(y,some d)):bJ v0 y d=sd g (ins.map (bJ v0 x)):=by
 unfold nk at h
 rcases NW hg with⟨h0,h9,ho⟩|⟨h10,h8,hwr⟩
 ·rw[if_pos ⟨h0,h9⟩]at h;obtain⟨e,h1,rfl⟩:=t_ h
  rw[Ma (by omega),abG h0 h9 (fun h2=>by
   have:=Pq ho h2
   rintro rfl
   simp at hlen;omega) ok hv hl h1]
  unfold sd;rw[if_neg (by omega)]
  have e2:decide ((g.op%2).toNat=1)=sK g.op:=by
   unfold sK;rw[fJ];simp only[bj];omega
  rw[e2]
  cases y9 g.op (ins.map (bJ v0 x))<;>cases sK g.op<;>rfl
 ·rw[if_neg (by omega)]at h;obtain⟨p,h1,rfl⟩:=t_ h;obtain⟨c,l'⟩:=p;have hV:=M6 hwr (pG (ins.map (bJ v0 x)));unfold B1 at hV
  split at hV
  ·split at hV
   ·rename_i v h5;have hfv:=L7 v0 ins (ins.map (bJ v0 x)) _ x y _ c l' ok hv hl rfl h1 v [] (by rw[hlen];exact h5);have hvv:=Option.some.inj hV
    have hfit:bu (eH (pG (ins.map (bJ v0 x)))) g.rows=bu (fun s=>mo s (ins.map (bJ v0 x))) g.rows:=by
     obtain⟨m,hm,_,_,h3⟩:=Nk hwr
     refine La fun s hs=>?_
     have h6:=h3 s hs;have:=Mp (ins.map (bJ v0 x)) s 0 h6.1 (by simp;omega);simpa[eH]using this
    unfold sd;rw[if_pos h10,<-hfit,<-hvv,<-hfv];simp only
    cases g.off
    ·simp only[ec,db]
     cases bJ v0 y c<;>rfl
    ·simp only[cy,l9]
     cases bJ v0 y c<;>rfl
   ·cases hV
  ·cases hV
abbrev gW(c:Ct):Nat:=c.aG.length+c.ai.length
structure oi(c:Ct)(v0:List Bool)(x:Gr)(v p:List Nat):Prop where
 grow:gO (dN c) x
 len:v.length=(aD c).length
 inv:sy c x v p
 low:∀k(hk:k<v.length),k<gW c->v[k]=2*(k+1)
 eq:∀j∈p,∀h:j<c.af.length,∀hk:gW c+j<v.length,bJ v0 x v[gW c+j]=sd c.af[j] ((dd ((aD c).zip v) c.af[j].ins).map (bJ v0 x))
 ins:∀j∈p,∀h:j<c.af.length,∀s∈c.af[j].ins,∃k,∃hk:k<(aD c).length,(aD c)[k]=s/\qJ c p k
theorem LZ{c:Ct}{p q:List Nat}{k:Nat}(h:qJ c p k):qJ c (p++q) k:=by
 rcases h with h|⟨j,hj,rfl⟩
 ·exact .inl h
 ·exact .inr ⟨j,sW _ hj,rfl⟩
theorem MD{c:Ct}(hn:(aD c).Nodup){v p:List Nat}(hv:v.length=(aD c).length){a d:Nat}(ha:a∉p){l:List Bs}(hl:∀s∈l,∃k,∃hk:k<(aD c).length,(aD c)[k]=s/\qJ c p k):dd ((aD c).zip (v.set (gW c+a) d)) l=dd ((aD c).zip v) l:=by
 refine oD fun s hs=>?_
 obtain⟨k,hk,rfl,hc⟩:=hl s hs;rw[sg _ _ k hn hk (by simpa using hv),sg _ _ k hn hk hv,JC]
 rcases hc with hc|⟨j,hj,rfl⟩
 ·simp only[gW];omega
 ·simp only[gW]
  rintro e
  have:a=j:=by omega
  exact ha (this▸hj)
theorem oi.step{c:Ct}(okc:eN c)(hn:(aD c).Nodup){v0:List Bool}(hv0:V0 (dN c) v0){i:Nat}(hi:i<(aP c).length){x y:Gr}{v:List Nat}{d:Nat}(h:oi c v0 x v ((aP c).take i))
 (hg:nk x (c.af[(aP c)[i]]'(oY c _ (bx hi))) (dd ((aD c).zip v) (c.af[(aP c)[i]]'(oY c _ (bx hi))).ins)=(y,some d)):
 oi c v0 y (v.set (gW c+(aP c)[i]) d) ((aP c).take (i+1)):=by
 have ha:=oY c _ (bx hi)
 have hic:=fun s hs=>ML okc hi (s:=s) hs
 have hlt:=xg hn h.len h.inv hic;have hgb:=okc.af _ (bx ha);have hfi:=Le h.grow.ok (c.af[(aP c)[i]]) hlt;rw[hg]at hfi;have hd:=hfi.2 d rfl
 have hap:(aP c)[i]∉(aP c).take i:=by
  intro hm;obtain⟨x,hx,he⟩:=kC hm;rw[ox]at he;have:=(zw (xs:=aP c) (h₀:=by simp at hx;omega) (h₁:=hi) (Kz c)).1 he
  simp at hx;omega
 have hval:=aal hgb (oQ _ _) h.grow.ok (hv0.grow h.grow) hlt hg;have hst:(aP c).take (i+1)=(aP c).take i++[(aP c)[i]]:=gG hi;rw[hst];have hinsA:=MD hn h.len (d:=d) hap hic;refine⟨h.grow.trans hfi.1,by simpa using h.len,h.inv.step hfi.1.lits hd,fun k hk hk2=>?_,fun j hj hjl hk=>?_,fun j hj hjl s hs=>?_⟩
 ·rw[JC (by simp only[gW]at hk2⊢;omega)];exact h.low k (by simpa using hk) hk2
 ·rcases bn.1 hj with hj|hj
  ·have hne:¬gW c+(aP c)[i]=gW c+j:=by
    rintro e
    have:(aP c)[i]=j:=by omega
    exact hap (this▸hj)
   have hij:=h.ins j hj hjl;rw[JC hne,MD hn h.len hap hij]
   have hk':gW c+j<v.length:=by simpa using hk
   have hlj:=xg hn h.len h.inv hij;have e:=h.eq j hj hjl hk';rw[Ee hfi.1 (hv0.grow h.grow) hlj,<-e];exact oZ hfi.1 (hv0.grow h.grow) (h.inv _ hk' (.inr ⟨j,hj,rfl⟩))
  ·simp only[dG]at hj;subst hj;rw[List.getElem_set_self,hinsA,hval,Ee hfi.1 (hv0.grow h.grow) hlt]
 ·rcases bn.1 hj with hj|hj
  ·obtain⟨k,hk,e,hc⟩:=h.ins j hj hjl s hs;exact⟨k,hk,e,LZ hc⟩
  ·simp only[dG]at hj;subst hj;obtain⟨k,hk,e,hc⟩:=hic s hs;exact⟨k,hk,e,LZ hc⟩
theorem abD{c:Ct}(okc:eN c)(hn:(aD c).Nodup){v0:List Bool}(hv0:V0 (dN c) v0){y:Gr}{w:List Nat}:∀n i,i+n=(aP c).length->∀(x:Gr)(v:List Nat),oi c v0 x v ((aP c).take i)->oa c ((aP c).drop i) x v=(y,some w)->oi c v0 y w (aP c):=by
 intro n
 induction n with
 |zero=>
  intro i hi x v h h1;rw[br (by omega),oa]at h1;rw[bR (by omega)]at h
  cases h1
  exact h
 |succ n ih=>
  intro i hi x v h h1
  have q1:i<(aP c).length:=by omega
  rw[bL q1,Mb c (oY c _ (bx q1))]at h1;obtain⟨z,d,h2,h1⟩:=tQ h1;exact ih (i+1) (by omega) z _ (h.step okc hn hv0 q1 h2) h1
theorem agP{c:Ct}(hc:bX c)(okc:eN c)(v0:List Bool):oi c v0 (dN c) (gN (aD c).length) []:=
 ⟨.refl (NT hc okc),wS _,Ni hc,fun k hk _=>by simp[gN],fun j hj=>(by cases hj),fun j hj=>(by cases hj)⟩
theorem My{c:Ct}(hc:bX c)(okc:eN c)(hn:(aD c).Nodup){v0:List Bool}(hv0:V0 (dN c) v0){y:Gr}{w:List Nat}(h:oc c=(y,some w)):oi c v0 y w (aP c):=
 abD okc hn hv0 (aP c).length 0 (by omega) _ _ (agP hc okc v0) h
theorem KP(c:Ct):(dN c).first=1+gW c:=by simp[Gr.first,dN,gW,nF]
theorem FN{c:Ct}{state ins:List Bool}(hi:ins.length=c.aG.length)(hs:state.length=c.ai.length):V0 (dN c) (false::(ins++state)):=⟨by rw[KP];simp[gW,hi,hs,Nat.add_comm],rfl⟩
theorem aeu(c:Ct){k:Nat}(hk:k<c.aG.length):∃h:k<(aD c).length,(aD c)[k]=c.aG[k]:=by
 have h:k<(aD c).length:=by rw[wW];omega
 refine⟨h,?_⟩
 have:(aD c)[k]? =some c.aG[k]:=by
  rw[aD,cV (by simp;omega),cV hk,bm hk]
 exact(cW.1 this).2
theorem adv(c:Ct){k:Nat}(hk:k<c.ai.length):∃h:c.aG.length+k<(aD c).length,(aD c)[c.aG.length+k]=c.ai[k].name:=by
 have h:c.aG.length+k<(aD c).length:=by rw[wW];omega
 refine⟨h,?_⟩
 have:(aD c)[c.aG.length+k]? =some c.ai[k].name:=by
  rw[aD,cV (by simp;omega),dF (by omega),vy,vu,bm hk];rfl
 exact(cW.1 this).2
def xT(c:Ct)(v0:List Bool)(y:Gr)(v:List Nat)(s:Bs):Bool:=bJ v0 y (sH ((aD c).zip v) s)
theorem Oe{c:Ct}{v0:List Bool}(hv0:V0 (dN c) v0){y:Gr}{v p:List Nat}(h:oi c v0 y v p){k:Nat}(hk:k<v.length)(hk2:k<gW c):bJ v0 y v[k]=v0.getD (k+1) false:=by
 rw[h.low k hk hk2];have e:=KP c
 have hlt:2*(k+1)<(dN c).lits:=by unfold Gr.lits Gr.all;omega
 rw[oZ h.grow hv0 hlt];unfold bJ;simp only[dN,bM];exact At v0 (k+1)
theorem acU{c:Ct}(okc:eN c)(hn:(aD c).Nodup)(hall:∀i<c.af.length,i∈aP c){state ins:List Bool}(hi:ins.length=c.aG.length)(hs:state.length=c.ai.length){y:Gr}{v:List Nat}(h:oi c (false::(ins++state)) y v (aP c)):BU c ins state (xT c (false::(ins++state)) y v):=by
 have hv0:=FN hi hs;have hnl:=wW c;have hl:=h.len;refine⟨fun i hi2=>?_,fun i hi2=>?_,fun i hi2=>?_⟩
 ·obtain⟨h1,h2⟩:=aeu c hi2;unfold xT;rw[<-h2,sg _ _ i hn h1 h.len,Oe hv0 h (by omega) (by simp only[gW];omega)];simp only[bp,mW];rw[cV (by omega)]
 ·obtain⟨h1,h2⟩:=adv c hi2;unfold xT;rw[<-h2,sg _ _ _ hn h1 h.len,Oe hv0 h (by omega) (by simp only[gW];omega)];simp only[bp,mW];rw[dF (by omega),hi,vy]
 ·obtain⟨h1,h2⟩:=Gx c hi2;have e:=h.eq i (hall i hi2) hi2 (by simp only[gW];omega)
  have e2:xT c (false::(ins++state)) y v c.af[i].name=bJ (false::(ins++state)) y (v[gW c+i]'(by simp only[gW];omega)):=by
   unfold xT;rw[<-h2,sg _ _ _ hn h1 h.len]
  rw[e2,e];unfold qF BC;rw[okc.af _ (bx hi2)];simp only[iB,decide_true,sV,dd,iz];rfl
theorem Nb{c:Ct}(hall:∀i<c.af.length,i∈aP c){s:Bs}(hs:s∈aD c):∃k,∃hk:k<(aD c).length,(aD c)[k]=s/\qJ c (aP c) k:=by
 obtain⟨k,hk,he⟩:=kC hs;refine⟨k,hk,he,?_⟩;have hl:=wW c
 by_cases h1:k<c.aG.length+c.ai.length
 ·exact .inl h1
 ·exact .inr ⟨k-(c.aG.length+c.ai.length),hall _ (by omega),by omega⟩
theorem afO{c:Ct}(hc:bX c)(okc:eN c)(hn:(aD c).Nodup)(hall:∀i<c.af.length,i∈aP c){v0:List Bool}{y:Gr}{v:List Nat}(h:oi c v0 y v (aP c)):(eb c y v).Ok:=by
 have ok:=h.grow.ok;have h0:=okc.lV;simp only[jg,jV,jr]at h0
 have hnl:(c.ai.map (·.next)).length=c.ai.length:=by simp
 have hyn:y.next.length=c.ai.length:=by rw[h.grow.next];simp[dN]
 have hyi:y.init.length=c.ai.length:=by rw[h.grow.init];simp[dN]
 have hl1:=xg hn h.len h.inv (l:=c.ai.map (·.next)) (fun s hs=>Nb hall (okc.used s (by simp only[eV,bn];exact .inl (.inr hs))));have hl2:=xg hn h.len h.inv (l:=c.bf) (fun s hs=>Nb hall (okc.used s (by simp only[eV,bn];exact .inl (.inl hs))))
 have hfirst:(eb c y v).first=y.first:=by simp[Gr.first,eb,oQ,hyn]
 have hall':(eb c y v).all=y.all:=by unfold Gr.all;rw[hfirst];rfl
 have hlits:(eb c y v).lits=y.lits:=by unfold Gr.lits;rw[hall']
 refine⟨ok.ins,?_,?_,?_,ok.init,fun a ha=>?_,fun a ha=>?_,fun i hi=>?_⟩
 ·have:=ok.sum;simp[eb,oQ]at this⊢;omega
 ·simp[eb,oQ];omega
 ·simp[eb,oQ,hyi]
 ·rw[hlits];simp only[eb,cF]at ha;obtain⟨n,hn2,rfl⟩:=ha;have:=hl1 n hn2;omega
 ·rw[hlits];simp only[eb,cF]at ha;obtain⟨n,hn2,rfl⟩:=ha;have:=hl2 n hn2;omega
 ·have:=ok.ands i hi;rw[hfirst];exact this
theorem M3{c:Ct}{y:Gr}{v:List Nat}(state ins:List Bool)(ok:(eb c y v).Ok)(h1:y.ins=c.aG.length):(eb c y v).ey state ins=if n5 c ins state=true then 0 else 11:=by
 unfold Gr.ey;rw[Gr.uc ok];simp only[ne_eq,not_true_eq_false,db]
 have e:(eb c y v).fits state ins=n5 c ins state:=by
  unfold Gr.fits n5;rw[fJ];simp only[eb,iB,oQ,h1,av,bj];omega
 rw[e]
theorem MZ{c:Ct}(hb:h_ c)(ho:hY c=true){y:Gr}{v:List Nat}(hg:oc c=(y,some v))(state ins:List Bool):
 (eb c y v).normal.check=0/\(eb c y v).normal.ey state ins=(qy c ins state).2.2/\(eb c y v).normal.dC state ins=(qy c ins state).1/\(eb c y v).normal.je state ins=(qy c ins state).2.1:=by
 obtain⟨hr,hnv,_⟩:=uC ho;obtain⟨okc,_⟩:=w6 hr;have hc:=rJ hb hr
 have hn:(aD c).Nodup:=by
  have:=Aq okc;simpa[aD,eM]using this
 have hall:∀i<c.af.length,i∈aP c:=fun i hi=>by
  refine T3 fun hni=>?_
  have h1:=(acu (tI hr) (aP c) hi).2 hni
  have h2:o_ c=ml (aP c) c.af 0:=by simp[o_,hr]
  rw[<-h2,hnv]at h1
  cases h1
 have Ci:=My hc okc hn (v0:=false::(List.replicate c.aG.length false++List.replicate c.ai.length false)) (FN (by simp) (by simp)) hg;have hok:=afO hc okc hn hall Ci;have hck:=Gr.uc hok;obtain⟨hn1,hn2,hn3⟩:=X8 hck state ins;have hns:=(WH hck).2.1;refine⟨hns,?_⟩;rw[hn1,hn2,hn3,M3 state ins hok (by rw[Ci.grow.ins];rfl)];unfold qy dC Gr.dC Gr.je;rw[if_pos ho,M3 state ins hok (by rw[Ci.grow.ins];rfl)]
 cases hlb:n5 c ins state with
 |false=>simp
 |true=>
  simp only[cy];simp only[n5,av,bj]at hlb;obtain⟨hi,hs⟩:=hlb;have hL:=My hc okc hn (FN hi hs) hg;have hV:=acU okc hn hall hi hs hL;have hone:=ab6 okc hall hV (Z1 okc hall hi hs)
  have e0:∀l:List Bs,(∀s∈l,s∈aD c)->j7 ((eb c y v).kf state ins) ((dd ((aD c).zip v) l).map fun n:Nat=>(n:Int))=l.map (dS (gU c ins state)):=by
   intro l hl;unfold j7 dd;rw[iz,iz]
   refine oD fun s hs=>?_
   rw[<-hone s (hl s hs)];rfl
  refine⟨trivial,?_,?_⟩
  ·have:=e0 c.bf (fun s hs=>adJ okc hs);exact this
  ·have:=e0 (c.ai.map (·.next)) (fun s hs=>by
    obtain⟨q,hq,rfl⟩:=cF.1 hs
    exact acM okc hq)
   rw[iz]at this;exact this
end Go.Proofs.YtihmomicdpkabaaGreatDoor
namespace Go.Proofs.YtihmomicdpkabaaGreatDoor
open Go.AM Go.Proofs
variable{Γ:Nat->Option AV}
def C2:Ct:=⟨[[97],[98]],[[122]],[⟨[113],[122],1⟩],[⟨[122],6,[[97],[98]],[],false,1,0,.self,.nil⟩],1,1,3,5,.self,.self,.self,.self⟩
def C9:Ct:=⟨[[97],[98]],[[121]],[⟨[113],[122],1⟩],[⟨[122],6,[[97],[98]],[],false,1,0,.self,.nil⟩],1,1,3,5,.self,.self,.self,.self⟩
def pJ:Gr:=⟨2,[9],[1],[(5,3)],[9],1,1,2,1,.self,.self,.self,.self⟩
def km:Md:=⟨pJ,[[97],[98]],[[113]],[[122]],1,1,1,.self,.self,.self⟩
def ve:Md:=⟨pJ,[[97],[98]],[[113]],[[97]],1,1,1,.self,.self,.self⟩
theorem adS:bX C2:=NS (by kernel_rfl)
theorem aeg:bX C9:=NS (by kernel_rfl)
theorem F3:pJ.iy:=by unfold Gr.iy pJ;decide
theorem GD:xZ km:=⟨F3,by decide,by decide,by decide⟩
theorem af7:xZ ve:=⟨F3,by decide,by decide,by decide⟩
theorem adj:uY (mn C2)=.aB [pL km,.int .i64 0,.str []]:=by kernel_rfl
theorem aez:uY (mn C9)=.aB [pL k_,.int .i64 6,.str [121]]:=by kernel_rfl
set_option maxRecDepth 8000 in
theorem acW(hΓ:ek Γ)(hΩ:uV Γ):aM Tryz.prog Γ wm [] (.bool true):=by
 have hL1:=FR hΓ hΩ C2 adS.CY;have hL2:=FR hΓ hΩ C9 aeg.CY;rw[adj]at hL1;rw[aez]at hL2;have hS:=KQ (Γ:=Γ) pJ pJ F3;rw[show xv pJ pJ=true by kernel_rfl]at hS;have hT:=Yf (Γ:=Γ) [[113]] [[113]] (ka:=1) (kb:=1) .self .self (by simp);have hC1:=M9 (Γ:=Γ) km GD;rw[show BP km=0 by kernel_rfl]at hC1;have hC2:=M9 (Γ:=Γ) ve af7;rw[show BP ve=5 by kernel_rfl]at hC2;have hP1:=Fl (Γ:=Γ) km [113] (by decide) (by decide);rw[show nZ km [113]=3 by kernel_rfl]at hP1;have hP2:=Fl (Γ:=Γ) km [122] (by decide) (by decide);rw[show nZ km [122]=-1 by kernel_rfl]at hP2;have hS1:=OL (Γ:=Γ) km km GD;rw[show BQ km km=true by kernel_rfl]at hS1;have hS2:=OL (Γ:=Γ) km ve GD;rw[show BQ km ve=false by kernel_rfl]at hS2;unfold C2 at hL1;unfold C9 at hL2
 unfold km ve pJ at*;unfold k_ fD at hL2;simp at hL1 hL2 hS hT hC1 hC2 hP1 hP2 hS1 hS2;refine .run 90 XJ (by simp) ?_;simp;refine .call 90 (by simp) hL1 ?_;simp;refine .call 90 (by simp) hL2 ?_;simp;refine .call 90 (by simp) hS ?_;simp;refine .call 90 (by simp) hT ?_;simp;refine .call 90 (by simp) hC1 ?_;simp;refine .call 90 (by simp) hC2 ?_;simp;refine .call 90 (by simp) hP1 ?_;simp;refine .call 90 (by simp) hP2 ?_;simp;refine .call 90 (by simp) hS1 ?_;simp;refine .call 90 (by simp) hS2 ?_;simp;exact .back (by simp)
def xN:List Gt->Nat
 |[]=>0
 |g::l=>g.rows.length+xN l
def Gm(c:Ct):Bool:=xq c&&(decide (xN c.af<=40)&&decide (c.af.length<=16))
set_option maxRecDepth 8000 in
theorem abt(c:Ct)(hc:c.af.length<2^40)(hr:∀g∈c.af,g.rows.length<2^21)(b:Bool):∀n i:Nat,i+n=c.af.length->∀k:Nat,k<=i*2^21->
 aw Tryz.prog Γ (ybu (.ptr 0 0) (.bool b) (.int .i64 k) (.int .i64 i) [.cells (AV.cells (bH c))]) (.ret (.bool (b&&(decide (k+xN (c.af.drop i)<=40)&&decide (c.af.length<=16))))):=by
 intro n
 induction n with
 |zero=>
  intro i hi k hk
  have q1:¬i<c.af.length:=by omega
  rw[br (by omega),xN];have e1:((k:Int)<=40)=(k<=40):=propext (by omega);have e2:((c.af.length:Int)<=16)=(c.af.length<=16):=propext (by omega);refine .go 60 ?_
  cases b
  ·simp[q1];exact .back (by simp)
  ·by_cases h:k<=40
   ·simp[q1,e1,e2,h];exact .back (by simp[h])
   ·simp[q1,e1,e2,h];exact .back (by simp[h])
 |succ n ih=>
  intro i hi k hk
  have q1:i<c.af.length:=by omega
  have q2:=bP (c.hG.of q1);have hrr:=hr _ (bx q1);have hh:=ih (i+1) (by omega) (k+c.af[i].rows.length) (by omega);rw[bL q1,xN,<-nF];refine .go 60 ?_;simp(disch:=omega) [q1,q2];refine .aF ?_;simp at hh⊢;exact hh
set_option maxRecDepth 8000 in
theorem acy(c:Ct)(hc:c.af.length<2^40)(hr:∀g∈c.af,g.rows.length<2^21):aM Tryz.prog Γ tF [bH c] (.bool (Gm c)):=by
 have hL:=abC (Γ:=Γ) c;have hf:=abt (Γ:=Γ) c hc hr (xq c) c.af.length 0 (by omega) 0 (by omega);unfold Gm;generalize xq c=b at*;refine .run 60 X5 (by simp) ?_;simp;refine .call 60 (by simp) hL ?_;simp;refine .inLoop ?_;simp at hf⊢;exact hf
def RJ(c:Ct):Prop:=h_ c/\∀g∈c.af,g.rows.length<2^21
end Go.Proofs.YtihmomicdpkabaaGreatDoor
namespace Go.Proofs.YtihmomicdpkabaaGreatDoor
open Go.AM Go.Proofs Go.ChangeShapes Go.WideShapes Go.ChangeAt Go.RowKit
theorem ac2{H:Type}(d:DataW H):1<=Rows.uptoBulk d:=by
 cases d with
 |lit l=>cases l<;>simp[Rows.uptoBulk]
 |_=>simp[Rows.uptoBulk]
theorem MV{H:Type}:∀ds:List (DataW H),ds.length<=Rows.uptoBulkAll ds
 |[]=>by simp
 |d::ds=>by have:=MV ds;have:=ac2 d;simp only[bW,Rows.uptoBulkAll];omega
theorem AR{H:Type}:∀{ds:List (DataW H)}{d:DataW H},d∈ds->Rows.uptoBulk d<=Rows.uptoBulkAll ds
 |e::ds,d,h=>by
  simp only[Rows.uptoBulkAll]
  rcases bw.1 h with rfl|h
  ·omega
  ·have:=AR h;omega
def Small{H:Type}(d:DataW H):Prop:=Rows.uptoBulk d<=1048576
theorem aga{H:Type}:Down (H:=H) 1048576 Small:=by
 refine⟨fun e r h _=>?_,fun ps h d hd=>?_,fun b h _=>?_⟩
 ·simp only[Small,Rows.uptoBulk]at h;refine⟨by have:=MV e;omega,fun d hd=>?_⟩;have:=AR hd
  simp only[Small];omega
 ·simp only[Small,Rows.uptoBulk]at h⊢;have:=AR hd;omega
 ·simp only[Small,Rows.uptoBulk]at h;omega
theorem abw{H:Type}{ds gs:List (DataW H)}(hk:Rows.uptoSmall H (ds++gs)=true):∀d∈ds,Small d:=by
 intro d hd;have h:=DD hk;have:=AR (sW gs hd)
 simp only[Small];omega
theorem Zw{B:Nat}{cs:List AV}(h:dD B B6 cs):∃l:List Bool,cs=[.list false 1 (l.map .bool)]/\l.length<=B:=by
 simp only[dD]at h;obtain⟨xs,rfl,h0,h1⟩:=h
 obtain⟨l,hl,hn⟩:=rT (f:=kj false) (e:=AV.bool) (fun x hx=>by
  obtain⟨⟨n,rfl⟩,_⟩:=h1 x hx
  exact⟨n,rfl⟩)
 exact⟨l,by rw[hl],by omega⟩
theorem yV.toL{c:Ct}(h:yV 1048576 c):RJ c:=⟨h.CY (by decide),fun g hg=>by
 have:=(h.2.2.2.2.1 g hg).2.2.1
 omega⟩
end Go.Proofs.YtihmomicdpkabaaGreatDoor
namespace Go.Proofs.YtihmomicdpkabaaGreatDoor
open Go.AM Go.Proofs
variable{Γ:Nat->Option AV}
theorem Md.ag9{c:Ct}(hb:h_ c):xZ (mn c).1:=by
 unfold mn
 split
 ·rename_i h0
  split
  ·exact⟨N_,by simp[k_],by simp[k_],by simp[k_]⟩
  ·rename_i v hv
   have ho:hY c=true:=by simp[hY,h0]
   obtain⟨hr,_,_⟩:=uC ho;have hc:=rJ hb hr;have hS:=(MZ hb ho (y:=(oc c).1) (v:=v) (by rw[<-hv]) [] []).1;exact⟨(Gr.qv hS).iy,by have:=hc.1;simp[qt];omega,by have:=hc.2.2.1;simp[qt];omega,by have:=hc.2.1;simp[qt];omega⟩
 ·exact⟨N_,by simp[k_],by simp[k_],by simp[k_]⟩
theorem ac3{c:Ct}(h:(mn c).2.1=0):hY c=true/\∃v,(oc c).2=some v/\mn c=(qt c (oc c).1 v,0,[]):=by
 unfold mn at h⊢
 by_cases h0:(mg c).1=0
 ·rw[if_pos h0]at h⊢
  cases hv:(oc c).2 with
  |none=>rw[hv]at h;cases h
  |some v=>exact⟨by simp[hY,h0],v,rfl,rfl⟩
 ·rw[if_neg h0]at h;exact absurd h h0
def Qj(c:Ct)(g:Gr):Prop:=∀state ins:List Bool,g.ey state ins=(qy c ins state).2.2/\g.dC state ins=(qy c ins state).1/\g.je state ins=(qy c ins state).2.1
set_option maxRecDepth 8000 in
theorem agv(c:Ct)(ho:hY c=true)(m:Md)(hm:m.g.iy)(hd:Qj c m.g){kq:Nat}(seq:List (Nat×List Bool))(hkq:Kd 1 kq seq)(hqk:∀x∈seq,Kd 1 x.1 x.2/\x.2.length<2^40)(b1:c.ai.length<2^40)(b2:c.bf.length<2^40)(hql:seq.length<=12)(o:List (List Bool))(hol:o.length<=seq.length):∀n i:Nat,i+n=seq.length->∀(k:Nat)(s:List Bool),Kd 1 k s->s.length=c.ai.length->
 (de c (seq.drop i) s).2.2=0->o.drop i=(de c (seq.drop i) s).1->aw Tryz.prog Γ (yY (.list false kq (seq.map gR)) (.bool true) (.ptr 0 0) (.list false 1 (o.map vl)) (.list false 1 ((de c (seq.drop i) s).2.1.map .bool)) (.list false k (s.map .bool)) (.int .i64 i) [.cells (AV.cells (pL m))] ⟨[],.norm,0,[]⟩) (.ret (.bool true)):=by
 intro n
 induction n with
 |zero=>
  intro i hi k s hk hs h0 h1
  have q1:¬i<seq.length:=by omega
  have hB:=Kr (Γ:=Γ) s s (ka:=k) (kb:=1) hk .self (by omega);rw[br (by omega),de];simp at hB;refine .go 60 ?_;simp[q1];refine .call 60 (by simp) hB ?_;simp;exact .back (by simp)
 |succ n ih=>
  intro i hi k s hk hs h0 h1
  have q1:i<seq.length:=by omega
  have q2:=bP (hkq.of q1);obtain⟨hki,hkl⟩:=hqk _ (bx q1);have hA:=Zf (Γ:=Γ) m.g hm s seq[i].2 hk hki (by omega) hkl;obtain⟨d1,d2,d3⟩:=hd s seq[i].2;rw[d1,d2,d3]at hA;rw[bL q1,de]at h0 h1⊢;unfold qy dC at hA;rw[ho]at hA
  cases hlens:n5 c seq[i].2 s with
  |false=>
   simp[hlens]at h0
  |true=>
   rw[hlens]at hA;rw[if_pos hlens]at h0 h1;simp only[reduceIte]at h0 h1⊢
   have hio:i<o.length:=by
    refine T3 fun hno=>?_
    rw[br (by omega)]at h1
    cases h1
   rw[bL hio]at h1
   injection h1 with h1 h2
   have hh:=ih (i+1) (by omega) 1 (lI c seq[i].2 s) .self (tU _ _ _) h0 h2
   have hol:(kV c seq[i].2 s).length=c.bf.length:=by simp[kV,eX]
   have hnl:=tU c seq[i].2 s;have hB:=Kr (Γ:=Γ) (kV c seq[i].2 s) (kV c seq[i].2 s) (ka:=1) (kb:=1) .self .self (by omega);generalize de c (seq.drop (i+1)) (lI c seq[i].2 s)=R at*;generalize kV c seq[i].2 s=PO at*;generalize lI c seq[i].2 s=PN at*;simp at hA hh hB⊢;have htkO:(PO.map AV.bool).take c.bf.length=PO.map AV.bool:=bR (by simp[hol]);have htkN:(PN.map AV.bool).take c.ai.length=PN.map AV.bool:=bR (by simp[hnl]);refine .go 60 ?_;simp[q1,q2];refine .dr 8 ?_;simp[q1,q2];refine .call (by simp) hA ?_;simp;refine .trees [19,20] ?_;simp;refine .go 60 ?_
   have hio':¬o.length<=i:=by omega
   simp[hio,hio',h1];refine .call 60 (by simp) hB ?_;simp;refine .aF ?_;simp(disch:=omega);refine .drop 1 rfl (by simp) (by simp) (by simp) ?_;simp at hh⊢;exact hh
set_option maxRecDepth 8000 in
theorem Yr(hΓ:ek Γ)(hΩ:uV Γ)(c:Ct)(hb:RJ c)(picks:List Bool)(seq:List (Nat×List Bool))(hp2:picks.length<2^40){ks kq:Nat}(hks:Kd 1 ks picks)(hkq:Kd 1 kq seq)(hqk:∀x∈seq,Kd 1 x.1 x.2):
 aM Tryz.prog Γ zS [bH c,.list false ks (picks.map .bool),.list false kq (seq.map gR)] (.bool true):=by
 have hP:=acy (Γ:=Γ) c hb.1.2.2.2.1 hb.2;have hL:=FR hΓ hΩ c hb.1;have hW:=Zb (Γ:=Γ) seq hkq 12 (by omega);have hbm:=Md.ag9 hb.1;refine .run 90 V4 (by simp) ?_;simp;refine .call 90 (by simp) (acW hΓ hΩ) ?_;simp;refine .call 90 (by simp) hP ?_
 cases hp:Gm c with
 |false=>
  simp;refine .call 90 (by simp) hL ?_;simp;exact .back (by simp)
 |true=>
  simp at hW;simp;refine .call 90 (by simp) hW ?_;simp;refine .call 90 (by simp) hL ?_
  cases hw:xJ seq 12 with
  |false=>
   simp;exact .back (by simp)
  |true=>
   obtain⟨w1,w2⟩:=ZZ hw
   by_cases h0:(mn c).2.1=0
   ·have e1:((60:Int)<picks.length)=(60<picks.length):=propext (by omega)
    by_cases h1:60<picks.length
    ·simp[h0,e1,h1];exact .back (by simp)
    obtain⟨ho,v,hv,he⟩:=ac3 h0;have hS:=W1 hΓ c hb.1 picks hks hp2;rw[if_pos ho,if_pos ho]at hS;have hsl:(fg c.ai picks).length=c.ai.length:=KZ _ _
    have hqk2:∀x∈seq,Kd 1 x.1 x.2/\x.2.length<2^40:=fun x hx=>⟨hqk x hx,by have:=w2 x hx;omega⟩
    have b2:=hb.1.2.2.1;have hR:=YV hΓ c hb.1 (fg c.ai picks) seq (by omega) (by omega) (ks:=1) .self hkq hqk2
    have hRe:uQ c (fg c.ai picks) seq=if(de c seq (fg c.ai picks)).2.2=0 then de c seq (fg c.ai picks)else([],[],(de c seq (fg c.ai picks)).2.2):=by
     unfold uQ;rw[if_pos ho,if_pos (by omega),if_pos hsl]
    rw[hRe]at hR;simp[h0,e1,h1];refine .call 90 (by simp) hS ?_;simp
    by_cases hr:(de c seq (fg c.ai picks)).2.2=0
    ·simp[hr]at hR;refine .call 90 (by simp) hR ?_;have hk0:(de c seq (fg c.ai picks)).2.1.length=c.ai.length:=FF c seq _ hsl;have hk1:=Og c seq (fg c.ai picks);simp[hsl]
     have hd:Qj c (mn c).1.g:=fun st ins=>by
      obtain⟨s0,s1,s2,s3⟩:=MZ hb.1 ho (y:=(oc c).1) (v:=v) (by rw[<-hv]) st ins
      rw[he];exact⟨s1,s2,s3⟩
     have b3:=hb.1.2.1;have key:=agv (Γ:=Γ) c ho (mn c).1 hbm.1 hd seq hkq hqk2 b2 (by omega) w1 (de c seq (fg c.ai picks)).1 hk1 seq.length 0 (by omega) 1 (fg c.ai picks) .self hsl (by rw[eT];exact hr) (by rw[eT,eT]);rw[eT]at key;generalize de c seq (fg c.ai picks)=R at*;have htk:((fg c.ai picks).map AV.bool).take c.ai.length=(fg c.ai picks).map AV.bool:=bR (by simp[hsl]);simp at key
     by_cases hz:∀x∈R.1,x=[]
     ·rw[if_pos hz];refine .trees [12,14,15,17] ?_;simp[hsl,htk];refine .inLoop ?_;simp;refine .gc 0 [1] (by simp) (by decide) ?_;simp;exact key
     ·rw[if_neg hz];refine .trees [12,14,15,17] ?_;simp[hsl,htk];refine .inLoop ?_;simp;refine .gc 0 [1] (by simp) (by decide) ?_;simp;exact key
    ·simp[hr]at hR;refine .call 90 (by simp) hR ?_;simp[hr];exact .back (by simp)
   ·simp[h0];exact .back (by simp)
end Go.Proofs.YtihmomicdpkabaaGreatDoor
namespace Go.Proofs.YtihmomicdpkabaaGreatDoor
open Go.AM Go.Proofs Go.ChangeShapes Go.WideShapes Go.ChangeAt Go.RowKit
theorem V1(os:Os){H:Type}(enc:TypeId×Value->H):∃places,DataW.whole enc Tryz.prog ((Gw os).forCall (fun _ _=>0) ⟨#[],#[.agg #[.slice none 0 0,.slice none 0 0,.slice none 0 0,.slice none 0 0],.slice none 0 0,.slice none 0 0],[]⟩).memory Tryz.f6.params.toList Rows.lowerRunsSpec.vars false (#[.agg #[.slice none 0 0,.slice none 0 0,.slice none 0 0,.slice none 0 0],.slice none 0 0,.slice none 0 0]:Array Value).toList 8=some ([.agg [.nil,.nil,.nil,.nil],.nil,.nil],[],places):=
 ⟨[],by kernel_rfl⟩
set_option maxRecDepth 100000 in
theorem VK(os:Os)(started:os.Started)(H:Type)(enc:TypeId×Value->H)(F:Stop.Interp):
 ReturnsInHanded {} Tryz.checked os 6 .any ((Rows.OpenSpec.upto Rows.lowerRunsSpec).preRow enc Tryz.prog Tryz.f6 Rows.lowerRunsUptoRow.domain false Rows.lowerRunsUptoRow.laid) (((Rows.OpenSpec.upto Rows.lowerRunsSpec).at F).post enc Tryz.prog Tryz.f6 false true false false):=by
 obtain⟨places,hx⟩:=V1 os enc
 refine returnsInHanded_of_row (C:=Tryz.checked) (s:=Rows.OpenSpec.upto Rows.lowerRunsSpec) own started (by kernel_rfl) Tryz.func6
  (witness_row_at (enc:=enc) (C:=Tryz.checked) false (Gw os) #[.agg #[.slice none 0 0,.slice none 0 0,.slice none 0 0,.slice none 0 0],.slice none 0 0,.slice none 0 0] rfl (by kernel_rfl) (by kernel_rfl) (by kernel_rfl)
   (OpenSpec.preRow_of_cond 8 hx (by kernel_rfl) (fun k hk=>by cases hk;kernel_rfl) (by kernel_rfl) (acH os _))) ?_
 intro W base args ds gs before hval hW _ hcond _ hL hsh _;obtain⟨Γ,hΓ,hok⟩:=abO hL;refine YE aga (Γ:=Γ) (shs:=[(true,P_),(false,B6),(false,P1)]) laid agN (tb:=4) (by kernel_rfl) u4 (DD (by kernel_rfl)) (by kernel_rfl) rfl ?_ hok ?_ hval hW (abw (hcond _ rfl))
 ·intro ds hds
  match ds,hds with
  |[d1,d2,d3],_=>exact⟨rfl,rfl,rfl⟩
 ·intro xs has;simp only[sb]at has;obtain⟨_,_,rfl,h1,_,_,_,rfl,h2,_,_,_,rfl,h3,_,rfl⟩:=has;obtain⟨a1,l1,a1b⟩:=ae9 h1;obtain⟨a2,rfl,a2b⟩:=Zw h2;obtain⟨a3,rfl,a3k⟩:=abE h3;simp only[kj,l1];exact Yr hΓ.1 hΓ.2 a1 a1b.toL a2 a3 (by omega) .self .self a3k
theorem Wb:Rows.LowerRunsUptoSaid:=
 OpenClaim.holds_of_cond 6 Tryz.f6 rfl rfl rfl rfl rfl rfl rfl ⟨rfl,rfl,rfl,rfl,rfl⟩ rfl rfl rfl rfl rfl (by kernel_rfl) Tryz.func6 (by kernel_rfl)
  (DD (by kernel_rfl)) (by unfold Func.isWrapper;first|(rw[if_pos (by decide+kernel)];kernel_rfl)|(rw[if_neg (by decide+kernel)];exact⟨rfl,rfl⟩))
  (fun os started H enc _ F=>by rw[OpenClaim.pre_eq_preRow];exact VK os started H enc F)
theorem VT(f:FuncId)(fn:Func)(hf:Tryz.pinned.checked.prog.funcNamed "patchbay/patchbaylaw11.LowerRuns" =some f)(hfn:Tryz.pinned.checked.prog.funcs[f]? =some fn):
 true=Tryz.pinned.checked.prog.looks []/\∀(j:Nat) t,fn.params[j]? =some t->Tryz.pinned.checked.prog.wantsStandIn t=false:=by
 obtain rfl:f=6:=Option.some.inj ((show Tryz.prog.funcNamed "patchbay/patchbaylaw11.LowerRuns" =some 6 by kernel_rfl).symm.trans hf)|>.symm
 obtain rfl:fn=Tryz.f6:=(Option.some.inj (Tryz.func6.symm.trans hfn)).symm;refine⟨by kernel_rfl,fun j t ht=>?_⟩
 have h1:(Tryz.f6.params.toList.all fun t=>!Tryz.prog.wantsStandIn t)=true:=by kernel_rfl
 have h2:=dw.1 h1 t (by simpa using Array.mem_of_getElem? ht)
 revert h2
 show(!Tryz.prog.wantsStandIn t)=true->Tryz.prog.wantsStandIn t=false
 cases Tryz.prog.wantsStandIn t<;>intro h<;>first|rfl|cases h
theorem lowerRuns_holds:Rows.LowerRunsUptoCardSaid:=
 Claim7.holds_tied_plain_at .later [] _ _ _ _ Wb (fun _ h=>by cases h) (by kernel_rfl) (fun _ h=>by cases h) lowerRunsUpto_row_tie rfl ⟨rfl,rfl⟩ (by kernel_rfl) rfl VT (by kernel_rfl)
#print axioms lowerRuns_holds
end Go.Proofs.YtihmomicdpkabaaGreatDoor
